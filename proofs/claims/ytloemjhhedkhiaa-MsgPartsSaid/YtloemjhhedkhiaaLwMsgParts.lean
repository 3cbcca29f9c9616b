/- What is asked: the walk. -/
import Derived.Test.YtloemjhhedkhiaaProg
import Derived.Below
import Derived.WalkKit
import Derived.KernelRfl
import Derived.RowKit3
import Derived.Deep.LoopGhost
import Derived.Deep.QuietTactic
import Derived.BigQuiet
import Derived.WideLaws
import Derived.Deep.DeepCutAuto
import Derived.Deep.CutBlock
import Derived.Lib.Hide
import Derived.Laws.BitsLemmas
import Derived.Laws.Bits64
import Derived.Laws.BitsAllLaws
import Derived.IntWalk
import Derived.Outline
import Derived.WalkSpells
import Derived.Test.YtloemjhhedkhiaaMem
import Derived.Test.YtloemjhhedkhiaaLwMsgExact
namespace Go.Proofs.Ytloemjhhedkhiaa.Ms
open Go.RowKit Go.Proofs.Ytloemjhhedkhiaa.Mem Go.Proofs.Ytloemjhhedkhiaa.Pk Go.Proofs.Ytloemjhhedkhiaa.Ca Go.Proofs.Ytloemjhhedkhiaa.Reg Go.Proofs.Ytloemjhhedkhiaa.Wk
set_option linter.unusedVariables false
set_option linter.unusedSimpArgs false

theorem nums5 {s : ByteArray} (h : 5 ≤ (s.size : Int)) : ∃ a b c d e l, nums s = a :: b :: c :: d :: e :: l := by
  have h1 : 5 ≤ (nums s).length := by rw [nums_length]; omega
  match hn : nums s with
  | a :: b :: c :: d :: e :: l => exact ⟨a, b, c, d, e, l, rfl⟩
  | [] => rw [hn] at h1; simp at h1
  | [_] => rw [hn] at h1; simp at h1
  | [_, _] => rw [hn] at h1; simp at h1
  | [_, _, _] => rw [hn] at h1; simp at h1
  | [_, _, _, _] => rw [hn] at h1; simp at h1
theorem start_seq {s : ByteArray} (h : 5 ≤ (s.size : Int)) : (startV s).1.seq = ((((idxB s 1) * 16777216) + ((idxB s 2) * 65536)) + ((idxB s 3) * 256)) + (idxB s 4) := by
  obtain ⟨a, b, c, d, e, l, hn⟩ := nums5 h
  have hlt := nums_lt s
  rw [hn] at hlt
  have ha := hlt a (by simp)
  have hb := hlt b (by simp)
  have hc := hlt c (by simp)
  have hd := hlt d (by simp)
  have he := hlt e (by simp)
  have e1 : be s 1 = a := by unfold be; rw [hn]; simp [beL]
  have i1 : inNumV s false 1 = (a, s.extract 1 s.size, false) := by
    unfold inNumV
    rw [show (1 : Int).toNat = 1 from rfl, e1, if_pos ⟨rfl, rfl, by omega, by omega⟩]
  have n2 : nums (s.extract 1 s.size) = b :: c :: d :: e :: l := by rw [nums_extract, hn]; rfl
  have e2 : be (s.extract 1 s.size) 4 = ((b * 256 + c) * 256 + d) * 256 + e := by unfold be; rw [n2]; simp [beL]
  have z2 : 4 ≤ (s.extract 1 s.size).size := by rw [← nums_length, n2]; simp
  have i2 : inNumV (s.extract 1 s.size) false 4 = (((b * 256 + c) * 256 + d) * 256 + e, (s.extract 1 s.size).extract 4 (s.extract 1 s.size).size, false) := by
    unfold inNumV
    rw [show (4 : Int).toNat = 4 from rfl, e2, if_pos ⟨rfl, rfl, by omega, by omega⟩]
  unfold startV
  rw [i1]
  simp only []
  rw [i2]
  simp only []
  have x1 : idxB s 1 = (b : Int) := by show (((nums s).getD 1 0 : Nat) : Int) = _; rw [hn]; rfl
  have x2 : idxB s 2 = (c : Int) := by show (((nums s).getD 2 0 : Nat) : Int) = _; rw [hn]; rfl
  have x3 : idxB s 3 = (d : Int) := by show (((nums s).getD 3 0 : Nat) : Int) = _; rw [hn]; rfl
  have x4 : idxB s 4 = (e : Int) := by show (((nums s).getD 4 0 : Nat) : Int) = _; rw [hn]; rfl
  rw [x1, x2, x3, x4]
  omega
theorem seq_short {s : ByteArray} (h : ¬ 5 ≤ (s.size : Int)) : seqV s = 0 := by
  have hk : (startV s).1.seq = 0 := by
    unfold startV
    simp only []
    have h2 : (inNumV (inNumV s false 1).2.1 (inNumV s false 1).2.2 4).1 = 0 := by
      have h3 : (inNumV s false 1).2.2 = true ∨ (inNumV s false 1).2.1.size + 1 ≤ s.size := by
        unfold inNumV
        split
        · rename_i h4
          right
          show (s.extract 1 s.size).size + 1 ≤ s.size
          rw [← nums_length, nums_extract, List.length_drop, nums_length]
          omega
        · exact .inl rfl
      generalize inNumV s false 1 = x at h3 ⊢
      unfold inNumV
      rw [if_neg]
      rintro ⟨g1, _, g3, _⟩
      rcases h3 with e | e
      · rw [g1] at e; cases e
      · omega
    rw [h2]
    rfl
  unfold seqV
  rw [hk]
  rfl
theorem seq_big {s : ByteArray} (h : 5 ≤ (s.size : Int)) (h2 : 1073741824 < ((((idxB s 1) * 16777216) + ((idxB s 2) * 65536)) + ((idxB s 3) * 256)) + (idxB s 4)) : seqV s = 0 := by
  unfold seqV
  rw [start_seq h, if_neg]
  unfold isCountV
  simp
  omega
theorem seq_is {s : ByteArray} (h : 5 ≤ (s.size : Int)) (h2 : ¬ 1073741824 < ((((idxB s 1) * 16777216) + ((idxB s 2) * 65536)) + ((idxB s 3) * 256)) + (idxB s 4)) : seqV s = ((((idxB s 1) * 16777216) + ((idxB s 2) * 65536)) + ((idxB s 3) * 256)) + (idxB s 4) := by
  unfold seqV
  rw [start_seq h, if_pos]
  have i1 := idx_le s 1
  have i2 := idx_le s 2
  have i3 := idx_le s 3
  have i4 := idx_le s 4
  unfold isCountV
  simp
  omega
theorem fil_eq (f : FilterV) : ((isFilterV f) == (((f.kind == 0) && (f.n == 0)) || ((((decide (0 < f.kind)) && (decide (f.kind < 4))) && (decide (0 < f.n))) && (decide (f.n ≤ 1073741824))))) = true := by
  rw [beq_iff_eq, Bool.eq_iff_iff, fil_iff]
  simp
  omega
theorem writes_eq (q : ReqV) : ((writesV q) == (((q.kind == 4) || (q.kind == 5)) || (q.kind == 10))) = true := by
  unfold writesV
  simp
theorem ask_noF {q : ReqV} (hq : okReq q) (h : formB q = false ∨ goodR (numsQ q) = false) : askV q = ⟨#[]⟩ := ask_no (by rw [enc_noF hq h]; decide)
theorem ask_ref {q : ReqV} (hq : okReq q) (hf : formB q = true) (hg : goodR (numsQ q) = true) : askV q = encR [(numsQ q).getD 0 0, 0, (numsQ q).getD 2 0, (numsQ q).getD 3 0, (numsQ q).getD 4 0, 0, 0, (numsQ q).getD 7 0, (numsQ q).getD 8 0, (numsQ q).getD 9 0, (numsQ q).getD 10 0, (numsQ q).getD 11 0, (numsQ q).getD 12 0, (numsQ q).getD 13 0, (numsQ q).getD 14 0, (numsQ q).getD 15 0] := by
  have he := enc_refV hq hf hg
  have h0 : (encodeV q).2 = 0 := by rw [he]
  have h1 := (encode_with hq h0 0 0 rfl (by omega) (.inl rfl)).1
  have hq2 : okReq (withV q 0 0) := ⟨hq.1, by show (0 : Int) ≤ 0; decide, by show (0 : Int) ≤ 18446744073709551615; decide⟩
  obtain ⟨_, g2⟩ := (enc_ref hq2).1.1 h1
  rw [ask_is h0, (enc_ref hq2).2 h1, ← encR_is g2]
  congr 1
def tab_parts_w : Wk.Tab := []
theorem p_parts_w {ops : Array Oper} {rest : List Oper} {o : Oper} {w0 : World} {Q : Exit → Act → World → Prop} {S : List Nat} {R : List Res} {K K' : Wk.Env} {N : Nat} (h : Wk.stp tab_parts_w N ops K o = some K') (n : Wk.Wk N S w0 K' R (wpList Try.prog ops Q rest)) : Wk.Wk N S w0 K R (wpList Try.prog ops Q (o :: rest)) := Wk.wP (T := tab_parts_w) (by kernel_rfl) h n
set_option maxHeartbeats 8000000 in
set_option maxRecDepth 20000 in
theorem parts_w_r7 (q : ReqV) (s : ByteArray) (f : FilterV) (hq : okReq q) (hib1 : 0 ≤ idxB s 1 ∧ idxB s 1 ≤ 255) (hib2 : 0 ≤ idxB s 2 ∧ idxB s 2 ≤ 255) (hib3 : 0 ≤ idxB s 3 ∧ idxB s 3 ≤ 255) (hib4 : 0 ≤ idxB s 4 ∧ idxB s 4 ≤ 255) (hwi1 : IntKind.i64.wrap (idxB s 1) = idxB s 1) (hwi2 : IntKind.i64.wrap (idxB s 2) = idxB s 2) (hwi3 : IntKind.i64.wrap (idxB s 3) = idxB s 3) (hwi4 : IntKind.i64.wrap (idxB s 4) = idxB s 4) (b3 : Nat) (b5 : Nat) (z1d : ¬ (256 < (s.size : Int))) (z2d : 5 ≤ (s.size : Int)) {wa wb : World} (H : Hid (Hp [] wa wb [rB b5 27 [.int .i64 f.kind, .int .i64 f.n], rB b3 29 [.int .i64 q.kind, .int .i64 q.seq, .int .i64 q.who, .int .i64 q.role, .int .u32 q.token, .int .u64 q.key, .int .i64 q.call.id, .int .i64 q.call.kind, .int .i64 q.call.src, .int .i64 q.call.dst, .int .i64 q.call.car, .int .i64 q.call.state, .int .i64 q.call.owner, .int .i64 q.call.born, .int .i64 q.id, .int .i64 q.car, .int .i64 q.mode, .int .i64 q.filter.kind, .int .i64 q.filter.n]])) (ac0 : Act) (hz : ac0.tmps.size = 122) (so1 : ac0.eval (.tmp 1) = .string s) {QR : Exit → Act → World → Prop} (hfin : ∀ (ac1 : Act) (wz : World), ac1.tmps.size = 122 → ac1.defers = ac0.defers → (∀ t, ([7, 20, 21, 22, 23, 24, 25, 26, 27, 28, 29, 30, 31, 32, 33, 34, 35, 36, 37] : List Nat).contains t = false → ac1.eval (.tmp t) = ac0.eval (.tmp t)) → ac1.eval (.tmp 7) = .int .i64 (((((idxB s 1) * 16777216) + ((idxB s 2) * 65536)) + ((idxB s 3) * 256)) + (idxB s 4)) →  Hid (Hp [] wa wz [rB b5 27 [.int .i64 f.kind, .int .i64 f.n], rB b3 29 [.int .i64 q.kind, .int .i64 q.seq, .int .i64 q.who, .int .i64 q.role, .int .u32 q.token, .int .u64 q.key, .int .i64 q.call.id, .int .i64 q.call.kind, .int .i64 q.call.src, .int .i64 q.call.dst, .int .i64 q.call.car, .int .i64 q.call.state, .int .i64 q.call.owner, .int .i64 q.call.born, .int .i64 q.id, .int .i64 q.car, .int .i64 q.mode, .int .i64 q.filter.kind, .int .i64 q.filter.n]]) → QR .normal ac1 wz) : (regAt Try.f6 7).wp Try.prog QR ac0 wb := by
  refine wp_region_st mixedP ⟨[0, 1, 2, 3, 0, 1, 2, 3, 4, 0, 1, 2, 3, 5, 0, 1, 2, 6, 7], by kernel_rfl⟩ [[], [0], [0, 1], [0, 1, 2], [], [4], [4, 5], [4, 5, 6], [0, 1, 2, 3, 4, 5, 6, 7], [], [9], [9, 10], [9, 10, 11], [0, 1, 2, 3, 4, 5, 6, 7, 8, 9, 10, 11, 12], [], [14], [14, 15], [0, 1, 2, 3, 4, 5, 6, 7, 8, 9, 10, 11, 12, 13, 14, 15, 16], [0, 1, 2, 3, 4, 5, 6, 7, 8, 9, 10, 11, 12, 13, 14, 15, 16, 17]] (by kernel_rfl) (by kernel_rfl) 122 hz (by kernel_rfl) (fun (xx : Unit) jx => nth [.string s, .int .u8 (idxB s 1), .int .i64 (idxB s 1), .int .i64 ((idxB s 1) * 16777216), .string s, .int .u8 (idxB s 2), .int .i64 (idxB s 2), .int .i64 ((idxB s 2) * 65536), .int .i64 (((idxB s 1) * 16777216) + ((idxB s 2) * 65536)), .string s, .int .u8 (idxB s 3), .int .i64 (idxB s 3), .int .i64 ((idxB s 3) * 256), .int .i64 ((((idxB s 1) * 16777216) + ((idxB s 2) * 65536)) + ((idxB s 3) * 256)), .string s, .int .u8 (idxB s 4), .int .i64 (idxB s 4), .int .i64 (((((idxB s 1) * 16777216) + ((idxB s 2) * 65536)) + ((idxB s 3) * 256)) + (idxB s 4)), .int .i64 (((((idxB s 1) * 16777216) + ((idxB s 2) * 65536)) + ((idxB s 3) * 256)) + (idxB s 4))] jx) (fun (LL : Nat → Bool) (xx : Unit) ww => Hp [] wa ww [rB b5 27 [.int .i64 f.kind, .int .i64 f.n], rB b3 29 [.int .i64 q.kind, .int .i64 q.seq, .int .i64 q.who, .int .i64 q.role, .int .u32 q.token, .int .u64 q.key, .int .i64 q.call.id, .int .i64 q.call.kind, .int .i64 q.call.src, .int .i64 q.call.dst, .int .i64 q.call.car, .int .i64 q.call.state, .int .i64 q.call.owner, .int .i64 q.call.born, .int .i64 q.id, .int .i64 q.car, .int .i64 q.mode, .int .i64 q.filter.kind, .int .i64 q.filter.n]]) () H.out.drew ?_ (steps_al ?_) ?_ ?_
  · exact fun _ _ _ _ _ h => h
  · refine al_cons ?_ (al_cons ?_ (al_cons ?_ (al_cons ?_ (al_cons ?_ (al_cons ?_ (al_cons ?_ (al_cons ?_ (al_cons ?_ (al_cons ?_ (al_cons ?_ (al_cons ?_ (al_cons ?_ (al_cons ?_ (al_cons ?_ (al_cons ?_ (al_cons ?_ (al_cons ?_ (al_cons ?_ (al_nil)))))))))))))))))))
    · intro LL xx ac wc sg hst hwant QQ hgo
      exact op_val hwant hgo hst _ (exec_move rfl ((sg.free 1 (by kernel_rfl)).trans so1)) rfl
    · intro LL xx ac wc sg hst hwant QQ hgo
      exact op_val hwant hgo hst (.int .u8 (idxB s 1)) (exec_sidx rfl (sg.slot 0 (sg.anc 0 rfl)) rfl Try.underlying9 (by omega)) rfl
    · intro LL xx ac wc sg hst hwant QQ hgo
      have se21 : ac.eval (.tmp 21) = _ := (sg.slot 1 (sg.anc 1 rfl))
      have sg21 := gt_of se21
      (try simp only [nth] at se21 sg21)
      exact op_val hwant hgo hst _ (by simp only [execOp, nth]; go_simp <;> omega) rfl
    · intro LL xx ac wc sg hst hwant QQ hgo
      have se22 : ac.eval (.tmp 22) = _ := (sg.slot 2 (sg.anc 2 rfl))
      have sg22 := gt_of se22
      (try simp only [nth] at se22 sg22)
      have hnw : IntKind.i64.wrap ((idxB s 1) * 16777216 : Int) = (idxB s 1) * 16777216 := IntWalk.i64_in _ (by omega)
      exact op_val hwant hgo hst _ (by simp only [execOp, nth]; go_simp <;> omega) rfl
    · intro LL xx ac wc sg hst hwant QQ hgo
      exact op_val hwant hgo hst _ (exec_move rfl ((sg.free 1 (by kernel_rfl)).trans so1)) rfl
    · intro LL xx ac wc sg hst hwant QQ hgo
      exact op_val hwant hgo hst (.int .u8 (idxB s 2)) (exec_sidx rfl (sg.slot 4 (sg.anc 4 rfl)) rfl Try.underlying9 (by omega)) rfl
    · intro LL xx ac wc sg hst hwant QQ hgo
      have se25 : ac.eval (.tmp 25) = _ := (sg.slot 5 (sg.anc 5 rfl))
      have sg25 := gt_of se25
      (try simp only [nth] at se25 sg25)
      exact op_val hwant hgo hst _ (by simp only [execOp, nth]; go_simp <;> omega) rfl
    · intro LL xx ac wc sg hst hwant QQ hgo
      have se26 : ac.eval (.tmp 26) = _ := (sg.slot 6 (sg.anc 6 rfl))
      have sg26 := gt_of se26
      (try simp only [nth] at se26 sg26)
      have hnw : IntKind.i64.wrap ((idxB s 2) * 65536 : Int) = (idxB s 2) * 65536 := IntWalk.i64_in _ (by omega)
      exact op_val hwant hgo hst _ (by simp only [execOp, nth]; go_simp <;> omega) rfl
    · intro LL xx ac wc sg hst hwant QQ hgo
      have se23 : ac.eval (.tmp 23) = _ := (sg.slot 3 (sg.anc 3 rfl))
      have sg23 := gt_of se23
      have se27 : ac.eval (.tmp 27) = _ := (sg.slot 7 (sg.anc 7 rfl))
      have sg27 := gt_of se27
      (try simp only [nth] at se23 sg23 se27 sg27)
      have hnw : IntKind.i64.wrap (((idxB s 1) * 16777216) + ((idxB s 2) * 65536) : Int) = ((idxB s 1) * 16777216) + ((idxB s 2) * 65536) := IntWalk.i64_in _ (by omega)
      exact op_val hwant hgo hst _ (by simp only [execOp, nth]; go_simp <;> omega) rfl
    · intro LL xx ac wc sg hst hwant QQ hgo
      exact op_val hwant hgo hst _ (exec_move rfl ((sg.free 1 (by kernel_rfl)).trans so1)) rfl
    · intro LL xx ac wc sg hst hwant QQ hgo
      exact op_val hwant hgo hst (.int .u8 (idxB s 3)) (exec_sidx rfl (sg.slot 9 (sg.anc 9 rfl)) rfl Try.underlying9 (by omega)) rfl
    · intro LL xx ac wc sg hst hwant QQ hgo
      have se30 : ac.eval (.tmp 30) = _ := (sg.slot 10 (sg.anc 10 rfl))
      have sg30 := gt_of se30
      (try simp only [nth] at se30 sg30)
      exact op_val hwant hgo hst _ (by simp only [execOp, nth]; go_simp <;> omega) rfl
    · intro LL xx ac wc sg hst hwant QQ hgo
      have se31 : ac.eval (.tmp 31) = _ := (sg.slot 11 (sg.anc 11 rfl))
      have sg31 := gt_of se31
      (try simp only [nth] at se31 sg31)
      have hnw : IntKind.i64.wrap ((idxB s 3) * 256 : Int) = (idxB s 3) * 256 := IntWalk.i64_in _ (by omega)
      exact op_val hwant hgo hst _ (by simp only [execOp, nth]; go_simp <;> omega) rfl
    · intro LL xx ac wc sg hst hwant QQ hgo
      have se28 : ac.eval (.tmp 28) = _ := (sg.slot 8 (sg.anc 8 rfl))
      have sg28 := gt_of se28
      have se32 : ac.eval (.tmp 32) = _ := (sg.slot 12 (sg.anc 12 rfl))
      have sg32 := gt_of se32
      (try simp only [nth] at se28 sg28 se32 sg32)
      have hnw : IntKind.i64.wrap ((((idxB s 1) * 16777216) + ((idxB s 2) * 65536)) + ((idxB s 3) * 256) : Int) = (((idxB s 1) * 16777216) + ((idxB s 2) * 65536)) + ((idxB s 3) * 256) := IntWalk.i64_in _ (by omega)
      exact op_val hwant hgo hst _ (by simp only [execOp, nth]; go_simp <;> omega) rfl
    · intro LL xx ac wc sg hst hwant QQ hgo
      exact op_val hwant hgo hst _ (exec_move rfl ((sg.free 1 (by kernel_rfl)).trans so1)) rfl
    · intro LL xx ac wc sg hst hwant QQ hgo
      exact op_val hwant hgo hst (.int .u8 (idxB s 4)) (exec_sidx rfl (sg.slot 14 (sg.anc 14 rfl)) rfl Try.underlying9 (by omega)) rfl
    · intro LL xx ac wc sg hst hwant QQ hgo
      have se35 : ac.eval (.tmp 35) = _ := (sg.slot 15 (sg.anc 15 rfl))
      have sg35 := gt_of se35
      (try simp only [nth] at se35 sg35)
      exact op_val hwant hgo hst _ (by simp only [execOp, nth]; go_simp <;> omega) rfl
    · intro LL xx ac wc sg hst hwant QQ hgo
      have se33 : ac.eval (.tmp 33) = _ := (sg.slot 13 (sg.anc 13 rfl))
      have sg33 := gt_of se33
      have se36 : ac.eval (.tmp 36) = _ := (sg.slot 16 (sg.anc 16 rfl))
      have sg36 := gt_of se36
      (try simp only [nth] at se33 sg33 se36 sg36)
      have hnw : IntKind.i64.wrap (((((idxB s 1) * 16777216) + ((idxB s 2) * 65536)) + ((idxB s 3) * 256)) + (idxB s 4) : Int) = ((((idxB s 1) * 16777216) + ((idxB s 2) * 65536)) + ((idxB s 3) * 256)) + (idxB s 4) := IntWalk.i64_in _ (by omega)
      exact op_val hwant hgo hst _ (by simp only [execOp, nth]; go_simp <;> omega) rfl
    · intro LL xx ac wc sg hst hwant QQ hgo
      exact op_val hwant hgo hst _ (exec_assign rfl (sg.slot 17 (sg.anc 17 rfl))) rfl
  · exact skips [] (by kernel_rfl) (fun _ h => by cases h)
  · intro xx ac1 wz hfr hsl hst
    exact hfin ac1 wz (hfr.size.trans hz) hfr.defers (fr_keep hfr [7, 20, 21, 22, 23, 24, 25, 26, 27, 28, 29, 30, 31, 32, 33, 34, 35, 36, 37] (by kernel_rfl)) (hsl 18 (by decide)) (Lib.hid hst)
set_option maxHeartbeats 8000000 in
set_option maxRecDepth 20000 in
theorem parts_w_r10 (q : ReqV) (s : ByteArray) (f : FilterV) (hq : okReq q) (hib1 : 0 ≤ idxB s 1 ∧ idxB s 1 ≤ 255) (hib2 : 0 ≤ idxB s 2 ∧ idxB s 2 ≤ 255) (hib3 : 0 ≤ idxB s 3 ∧ idxB s 3 ≤ 255) (hib4 : 0 ≤ idxB s 4 ∧ idxB s 4 ≤ 255) (hwi1 : IntKind.i64.wrap (idxB s 1) = idxB s 1) (hwi2 : IntKind.i64.wrap (idxB s 2) = idxB s 2) (hwi3 : IntKind.i64.wrap (idxB s 3) = idxB s 3) (hwi4 : IntKind.i64.wrap (idxB s 4) = idxB s 4) (b3 : Nat) (b5 : Nat) (z1d : ¬ (256 < (s.size : Int))) (z2d : 5 ≤ (s.size : Int)) (z3d : 1073741824 < (((((idxB s 1) * 16777216) + ((idxB s 2) * 65536)) + ((idxB s 3) * 256)) + (idxB s 4))) (hsq : ((seqV s) != 0) = false) (hwr : ((writesV q) == (((q.kind == 4) || (q.kind == 5)) || (q.kind == 10))) = true) (hfl : ((isFilterV f) == (((f.kind == 0) && (f.n == 0)) || ((((decide (0 < f.kind)) && (decide (f.kind < 4))) && (decide (0 < f.n))) && (decide (f.n ≤ 1073741824))))) = true) {wa wb : World} (H : Hid (Hp [] wa wb [rB b5 27 [.int .i64 f.kind, .int .i64 f.n], rB b3 29 [.int .i64 q.kind, .int .i64 q.seq, .int .i64 q.who, .int .i64 q.role, .int .u32 q.token, .int .u64 q.key, .int .i64 q.call.id, .int .i64 q.call.kind, .int .i64 q.call.src, .int .i64 q.call.dst, .int .i64 q.call.car, .int .i64 q.call.state, .int .i64 q.call.owner, .int .i64 q.call.born, .int .i64 q.id, .int .i64 q.car, .int .i64 q.mode, .int .i64 q.filter.kind, .int .i64 q.filter.n]])) (ac0 : Act) (hz : ac0.tmps.size = 122) (so1 : ac0.eval (.tmp 1) = .string s) (so3 : ac0.eval (.tmp 3) = .pointer (some ⟨b3, 0, none⟩)) (so5 : ac0.eval (.tmp 5) = .pointer (some ⟨b5, 0, none⟩)) (so7 : ac0.eval (.tmp 7) = .int .i64 0) {QR : Exit → Act → World → Prop} (hfin : ∀ (ac1 : Act) (wz : World), ac1.tmps.size = 122 → ac1.defers = ac0.defers → (∀ t, ([40, 41, 42, 43, 44, 45, 46, 47, 48, 49, 50, 51, 52, 53, 54, 55, 56, 57, 58, 59, 60, 61, 62, 63, 64, 65, 66, 67, 68, 69, 70, 71, 72, 73, 74, 75, 76, 77, 78, 79, 80, 81, 82, 83, 84, 85, 86, 87, 88, 89, 90, 91, 92, 93, 94] : List Nat).contains t = false → ac1.eval (.tmp t) = ac0.eval (.tmp t)) → ac1.eval (.tmp 94) = .bool false →  Hid (Hp [] wa wz [rB b5 27 [.int .i64 f.kind, .int .i64 f.n], rB b3 29 [.int .i64 q.kind, .int .i64 q.seq, .int .i64 q.who, .int .i64 q.role, .int .u32 q.token, .int .u64 q.key, .int .i64 q.call.id, .int .i64 q.call.kind, .int .i64 q.call.src, .int .i64 q.call.dst, .int .i64 q.call.car, .int .i64 q.call.state, .int .i64 q.call.owner, .int .i64 q.call.born, .int .i64 q.id, .int .i64 q.car, .int .i64 q.mode, .int .i64 q.filter.kind, .int .i64 q.filter.n]]) → QR .normal ac1 wz) : (regAt Try.f6 10).wp Try.prog QR ac0 wb := by
  refine wp_region_st mixedP ⟨[0, 1, 0, 2, 3, 4, 5, 4, 5, 6, 7, 8, 9, 10, 11, 12, 13, 14, 15, 16, 17, 18, 19, 20, 21, 20, 21, 22, 23, 24, 25, 26, 27, 28, 29, 30, 31, 32, 33, 34, 35, 36, 37, 38, 39, 40, 41, 42, 43, 44, 45, 46, 47, 48, 49], by kernel_rfl⟩ [[], [0], [], [0, 1, 2], [0, 1, 2, 3], [0, 1, 2, 3, 4], [0, 1, 2, 3, 4, 5], [0, 1, 2, 3, 4], [0, 1, 2, 3, 4, 7], [0, 1, 2, 3, 4, 7, 8], [0, 1, 2, 3, 4, 5, 6, 7, 8, 9], [0, 1, 2, 3, 4, 5, 6, 7, 8, 9, 10], [0, 1, 2, 3, 4, 5, 6, 7, 8, 9, 10, 11], [0, 1, 2, 3, 4, 5, 6, 7, 8, 9, 10, 11, 12], [0, 1, 2, 3, 4, 5, 6, 7, 8, 9, 10, 11, 12, 13], [0, 1, 2, 3, 4, 5, 6, 7, 8, 9, 10, 11, 12, 13, 14], [0, 1, 2, 3, 4, 5, 6, 7, 8, 9, 10, 11, 12, 13, 14, 15], [0, 1, 2, 3, 4, 5, 6, 7, 8, 9, 10, 11, 12, 13, 14, 15, 16], [0, 1, 2, 3, 4, 5, 6, 7, 8, 9, 10, 11, 12, 13, 14, 15, 16, 17], [0, 1, 2, 3, 4, 5, 6, 7, 8, 9, 10, 11, 12, 13, 14, 15, 16, 17, 18], [0, 1, 2, 3, 4, 5, 6, 7, 8, 9, 10, 11, 12, 13, 14, 15, 16, 17, 18, 19], [0, 1, 2, 3, 4, 5, 6, 7, 8, 9, 10, 11, 12, 13, 14, 15, 16, 17, 18, 19, 20], [0, 1, 2, 3, 4, 5, 6, 7, 8, 9, 10, 11, 12, 13, 14, 15, 16, 17, 18, 19, 20, 21], [0, 1, 2, 3, 4, 5, 6, 7, 8, 9, 10, 11, 12, 13, 14, 15, 16, 17, 18, 19, 20, 21, 22], [0, 1, 2, 3, 4, 5, 6, 7, 8, 9, 10, 11, 12, 13, 14, 15, 16, 17, 18, 19, 20, 21, 22, 23], [0, 1, 2, 3, 4, 5, 6, 7, 8, 9, 10, 11, 12, 13, 14, 15, 16, 17, 18, 19, 20, 21, 22], [0, 1, 2, 3, 4, 5, 6, 7, 8, 9, 10, 11, 12, 13, 14, 15, 16, 17, 18, 19, 20, 21, 22, 25], [0, 1, 2, 3, 4, 5, 6, 7, 8, 9, 10, 11, 12, 13, 14, 15, 16, 17, 18, 19, 20, 21, 22, 25, 26], [0, 1, 2, 3, 4, 5, 6, 7, 8, 9, 10, 11, 12, 13, 14, 15, 16, 17, 18, 19, 20, 21, 22, 23, 24, 25, 26, 27], [0, 1, 2, 3, 4, 5, 6, 7, 8, 9, 10, 11, 12, 13, 14, 15, 16, 17, 18, 19, 20, 21, 22, 23, 24, 25, 26, 27, 28], [0, 1, 2, 3, 4, 5, 6, 7, 8, 9, 10, 11, 12, 13, 14, 15, 16, 17, 18, 19, 20, 21, 22, 23, 24, 25, 26, 27, 28, 29], [0, 1, 2, 3, 4, 5, 6, 7, 8, 9, 10, 11, 12, 13, 14, 15, 16, 17, 18, 19, 20, 21, 22, 23, 24, 25, 26, 27, 28, 29, 30], [0, 1, 2, 3, 4, 5, 6, 7, 8, 9, 10, 11, 12, 13, 14, 15, 16, 17, 18, 19, 20, 21, 22, 23, 24, 25, 26, 27, 28, 29, 30, 31], [0, 1, 2, 3, 4, 5, 6, 7, 8, 9, 10, 11, 12, 13, 14, 15, 16, 17, 18, 19, 20, 21, 22, 23, 24, 25, 26, 27, 28, 29, 30, 31, 32], [0, 1, 2, 3, 4, 5, 6, 7, 8, 9, 10, 11, 12, 13, 14, 15, 16, 17, 18, 19, 20, 21, 22, 23, 24, 25, 26, 27, 28, 29, 30, 31, 32, 33], [0, 1, 2, 3, 4, 5, 6, 7, 8, 9, 10, 11, 12, 13, 14, 15, 16, 17, 18, 19, 20, 21, 22, 23, 24, 25, 26, 27, 28, 29, 30, 31, 32, 33, 34], [0, 1, 2, 3, 4, 5, 6, 7, 8, 9, 10, 11, 12, 13, 14, 15, 16, 17, 18, 19, 20, 21, 22, 23, 24, 25, 26, 27, 28, 29, 30, 31, 32, 33, 34, 35], [0, 1, 2, 3, 4, 5, 6, 7, 8, 9, 10, 11, 12, 13, 14, 15, 16, 17, 18, 19, 20, 21, 22, 23, 24, 25, 26, 27, 28, 29, 30, 31, 32, 33, 34, 35, 36], [0, 1, 2, 3, 4, 5, 6, 7, 8, 9, 10, 11, 12, 13, 14, 15, 16, 17, 18, 19, 20, 21, 22, 23, 24, 25, 26, 27, 28, 29, 30, 31, 32, 33, 34, 35, 36, 37], [0, 1, 2, 3, 4, 5, 6, 7, 8, 9, 10, 11, 12, 13, 14, 15, 16, 17, 18, 19, 20, 21, 22, 23, 24, 25, 26, 27, 28, 29, 30, 31, 32, 33, 34, 35, 36, 37, 38], [0, 1, 2, 3, 4, 5, 6, 7, 8, 9, 10, 11, 12, 13, 14, 15, 16, 17, 18, 19, 20, 21, 22, 23, 24, 25, 26, 27, 28, 29, 30, 31, 32, 33, 34, 35, 36, 37, 38, 39], [0, 1, 2, 3, 4, 5, 6, 7, 8, 9, 10, 11, 12, 13, 14, 15, 16, 17, 18, 19, 20, 21, 22, 23, 24, 25, 26, 27, 28, 29, 30, 31, 32, 33, 34, 35, 36, 37, 38, 39, 40], [0, 1, 2, 3, 4, 5, 6, 7, 8, 9, 10, 11, 12, 13, 14, 15, 16, 17, 18, 19, 20, 21, 22, 23, 24, 25, 26, 27, 28, 29, 30, 31, 32, 33, 34, 35, 36, 37, 38, 39, 40, 41], [0, 1, 2, 3, 4, 5, 6, 7, 8, 9, 10, 11, 12, 13, 14, 15, 16, 17, 18, 19, 20, 21, 22, 23, 24, 25, 26, 27, 28, 29, 30, 31, 32, 33, 34, 35, 36, 37, 38, 39, 40, 41, 42], [0, 1, 2, 3, 4, 5, 6, 7, 8, 9, 10, 11, 12, 13, 14, 15, 16, 17, 18, 19, 20, 21, 22, 23, 24, 25, 26, 27, 28, 29, 30, 31, 32, 33, 34, 35, 36, 37, 38, 39, 40, 41, 42, 43], [0, 1, 2, 3, 4, 5, 6, 7, 8, 9, 10, 11, 12, 13, 14, 15, 16, 17, 18, 19, 20, 21, 22, 23, 24, 25, 26, 27, 28, 29, 30, 31, 32, 33, 34, 35, 36, 37, 38, 39, 40, 41, 42, 43, 44], [0, 1, 2, 3, 4, 5, 6, 7, 8, 9, 10, 11, 12, 13, 14, 15, 16, 17, 18, 19, 20, 21, 22, 23, 24, 25, 26, 27, 28, 29, 30, 31, 32, 33, 34, 35, 36, 37, 38, 39, 40, 41, 42, 43, 44, 45], [0, 1, 2, 3, 4, 5, 6, 7, 8, 9, 10, 11, 12, 13, 14, 15, 16, 17, 18, 19, 20, 21, 22, 23, 24, 25, 26, 27, 28, 29, 30, 31, 32, 33, 34, 35, 36, 37, 38, 39, 40, 41, 42, 43, 44, 45, 46], [0, 1, 2, 3, 4, 5, 6, 7, 8, 9, 10, 11, 12, 13, 14, 15, 16, 17, 18, 19, 20, 21, 22, 23, 24, 25, 26, 27, 28, 29, 30, 31, 32, 33, 34, 35, 36, 37, 38, 39, 40, 41, 42, 43, 44, 45, 46, 47], [0, 1, 2, 3, 4, 5, 6, 7, 8, 9, 10, 11, 12, 13, 14, 15, 16, 17, 18, 19, 20, 21, 22, 23, 24, 25, 26, 27, 28, 29, 30, 31, 32, 33, 34, 35, 36, 37, 38, 39, 40, 41, 42, 43, 44, 45, 46, 47, 48], [0, 1, 2, 3, 4, 5, 6, 7, 8, 9, 10, 11, 12, 13, 14, 15, 16, 17, 18, 19, 20, 21, 22, 23, 24, 25, 26, 27, 28, 29, 30, 31, 32, 33, 34, 35, 36, 37, 38, 39, 40, 41, 42, 43, 44, 45, 46, 47, 48, 49], [0, 1, 2, 3, 4, 5, 6, 7, 8, 9, 10, 11, 12, 13, 14, 15, 16, 17, 18, 19, 20, 21, 22, 23, 24, 25, 26, 27, 28, 29, 30, 31, 32, 33, 34, 35, 36, 37, 38, 39, 40, 41, 42, 43, 44, 45, 46, 47, 48, 49, 50], [0, 1, 2, 3, 4, 5, 6, 7, 8, 9, 10, 11, 12, 13, 14, 15, 16, 17, 18, 19, 20, 21, 22, 23, 24, 25, 26, 27, 28, 29, 30, 31, 32, 33, 34, 35, 36, 37, 38, 39, 40, 41, 42, 43, 44, 45, 46, 47, 48, 49, 50, 51], [0, 1, 2, 3, 4, 5, 6, 7, 8, 9, 10, 11, 12, 13, 14, 15, 16, 17, 18, 19, 20, 21, 22, 23, 24, 25, 26, 27, 28, 29, 30, 31, 32, 33, 34, 35, 36, 37, 38, 39, 40, 41, 42, 43, 44, 45, 46, 47, 48, 49, 50, 51, 52], [0, 1, 2, 3, 4, 5, 6, 7, 8, 9, 10, 11, 12, 13, 14, 15, 16, 17, 18, 19, 20, 21, 22, 23, 24, 25, 26, 27, 28, 29, 30, 31, 32, 33, 34, 35, 36, 37, 38, 39, 40, 41, 42, 43, 44, 45, 46, 47, 48, 49, 50, 51, 52, 53]] (by kernel_rfl) (by kernel_rfl) 122 hz (by kernel_rfl) (fun (xx : Unit) jx => nth [.string s, .int .i64 (seqV s), .int .i64 0, .bool false, .bool false, .agg #[.int .i64 q.kind, .int .i64 q.seq, .int .i64 q.who, .int .i64 q.role, .int .u32 q.token, .int .u64 q.key, .int .i64 q.call.id, .int .i64 q.call.kind, .int .i64 q.call.src, .int .i64 q.call.dst, .int .i64 q.call.car, .int .i64 q.call.state, .int .i64 q.call.owner, .int .i64 q.call.born, .int .i64 q.id, .int .i64 q.car, .int .i64 q.mode, .int .i64 q.filter.kind, .int .i64 q.filter.n], .bool (writesV q), .pointer (some ⟨b3, 0, none⟩), .int .i64 q.kind, .bool (q.kind == 4), .bool (q.kind == 4), bif !(q.kind == 4) then .pointer (some ⟨b3, 0, none⟩) else undef, bif !(q.kind == 4) then .int .i64 q.kind else undef, bif !(q.kind == 4) then .bool (q.kind == 5) else undef, .bool ((q.kind == 4) || (q.kind == 5)), .bool ((q.kind == 4) || (q.kind == 5)), bif !((q.kind == 4) || (q.kind == 5)) then .pointer (some ⟨b3, 0, none⟩) else undef, bif !((q.kind == 4) || (q.kind == 5)) then .int .i64 q.kind else undef, bif !((q.kind == 4) || (q.kind == 5)) then .bool (q.kind == 10) else undef, .bool (((q.kind == 4) || (q.kind == 5)) || (q.kind == 10)), .bool false, .bool false, .bool false, .agg #[.int .i64 f.kind, .int .i64 f.n], .bool (isFilterV f), .pointer (some ⟨b5, 0, none⟩), .int .i64 f.kind, .bool (f.kind == 0), .bool (f.kind == 0), bif (f.kind == 0) then .pointer (some ⟨b5, 1, none⟩) else undef, bif (f.kind == 0) then .int .i64 f.n else undef, bif (f.kind == 0) then .bool (f.n == 0) else undef, .bool ((f.kind == 0) && (f.n == 0)), .bool ((f.kind == 0) && (f.n == 0)), bif !((f.kind == 0) && (f.n == 0)) then .pointer (some ⟨b5, 0, none⟩) else undef, bif !((f.kind == 0) && (f.n == 0)) then .int .i64 f.kind else undef, bif !((f.kind == 0) && (f.n == 0)) then .bool (decide (0 < f.kind)) else undef, bif !((f.kind == 0) && (f.n == 0)) then .bool (decide (0 < f.kind)) else undef, bif (!((f.kind == 0) && (f.n == 0)) && (decide (0 < f.kind))) then .pointer (some ⟨b5, 0, none⟩) else undef, bif (!((f.kind == 0) && (f.n == 0)) && (decide (0 < f.kind))) then .int .i64 f.kind else undef, bif (!((f.kind == 0) && (f.n == 0)) && (decide (0 < f.kind))) then .bool (decide (f.kind < 4)) else undef, bif !((f.kind == 0) && (f.n == 0)) then .bool ((decide (0 < f.kind)) && (decide (f.kind < 4))) else undef, bif !((f.kind == 0) && (f.n == 0)) then .bool ((decide (0 < f.kind)) && (decide (f.kind < 4))) else undef, bif (!((f.kind == 0) && (f.n == 0)) && ((decide (0 < f.kind)) && (decide (f.kind < 4)))) then .pointer (some ⟨b5, 1, none⟩) else undef, bif (!((f.kind == 0) && (f.n == 0)) && ((decide (0 < f.kind)) && (decide (f.kind < 4)))) then .int .i64 f.n else undef, bif (!((f.kind == 0) && (f.n == 0)) && ((decide (0 < f.kind)) && (decide (f.kind < 4)))) then .bool (decide (0 < f.n)) else undef, bif !((f.kind == 0) && (f.n == 0)) then .bool (((decide (0 < f.kind)) && (decide (f.kind < 4))) && (decide (0 < f.n))) else undef, bif !((f.kind == 0) && (f.n == 0)) then .bool (((decide (0 < f.kind)) && (decide (f.kind < 4))) && (decide (0 < f.n))) else undef, bif (!((f.kind == 0) && (f.n == 0)) && (((decide (0 < f.kind)) && (decide (f.kind < 4))) && (decide (0 < f.n)))) then .pointer (some ⟨b5, 1, none⟩) else undef, bif (!((f.kind == 0) && (f.n == 0)) && (((decide (0 < f.kind)) && (decide (f.kind < 4))) && (decide (0 < f.n)))) then .int .i64 f.n else undef, bif (!((f.kind == 0) && (f.n == 0)) && (((decide (0 < f.kind)) && (decide (f.kind < 4))) && (decide (0 < f.n)))) then .bool (decide (f.n ≤ 1073741824)) else undef, bif !((f.kind == 0) && (f.n == 0)) then .bool ((((decide (0 < f.kind)) && (decide (f.kind < 4))) && (decide (0 < f.n))) && (decide (f.n ≤ 1073741824))) else undef, .bool (((f.kind == 0) && (f.n == 0)) || ((((decide (0 < f.kind)) && (decide (f.kind < 4))) && (decide (0 < f.n))) && (decide (f.n ≤ 1073741824)))), .bool false, .bool false] jx) (fun (LL : Nat → Bool) (xx : Unit) ww => Hp [] wa ww [rB b5 27 [.int .i64 f.kind, .int .i64 f.n], rB b3 29 [.int .i64 q.kind, .int .i64 q.seq, .int .i64 q.who, .int .i64 q.role, .int .u32 q.token, .int .u64 q.key, .int .i64 q.call.id, .int .i64 q.call.kind, .int .i64 q.call.src, .int .i64 q.call.dst, .int .i64 q.call.car, .int .i64 q.call.state, .int .i64 q.call.owner, .int .i64 q.call.born, .int .i64 q.id, .int .i64 q.car, .int .i64 q.mode, .int .i64 q.filter.kind, .int .i64 q.filter.n]]) () H.out.drew ?_ (steps_al ?_) ?_ ?_
  · exact fun _ _ _ _ _ h => h
  · refine al_cons ?_ (al_cons ?_ (al_cons ?_ (al_cons ?_ (al_cons ?_ (al_cons ?_ (al_cons ?_ (al_cons ?_ (al_cons ?_ (al_cons ?_ (al_cons ?_ (al_cons ?_ (al_cons ?_ (al_cons ?_ (al_cons ?_ (al_cons ?_ (al_cons ?_ (al_cons ?_ (al_cons ?_ (al_cons ?_ (al_cons ?_ (al_cons ?_ (al_cons ?_ (al_cons ?_ (al_cons ?_ (al_cons ?_ (al_cons ?_ (al_cons ?_ (al_cons ?_ (al_cons ?_ (al_cons ?_ (al_cons ?_ (al_cons ?_ (al_cons ?_ (al_cons ?_ (al_cons ?_ (al_cons ?_ (al_cons ?_ (al_cons ?_ (al_cons ?_ (al_cons ?_ (al_cons ?_ (al_cons ?_ (al_cons ?_ (al_cons ?_ (al_cons ?_ (al_cons ?_ (al_cons ?_ (al_cons ?_ (al_cons ?_ (al_cons ?_ (al_cons ?_ (al_cons ?_ (al_cons ?_ (al_cons ?_ (al_nil)))))))))))))))))))))))))))))))))))))))))))))))))))))))
    · intro LL xx ac wc sg hst hwant QQ hgo
      exact op_val hwant hgo hst _ (exec_move rfl ((sg.free 1 (by kernel_rfl)).trans so1)) rfl
    · intro LL xx ac wc sg hst hwant QQ hgo
      have se40 : ac.eval (.tmp 40) = _ := (sg.slot 0 (sg.anc 0 rfl))
      have sg40 := gt_of se40
      (try simp only [nth] at se40 sg40)
      refine op_call hwant hgo 17 #[.string s] (by simp only [execOp]; go_simp) (seqC s wc) ?_
      rintro er wd ⟨rfl, hof⟩
      exact ⟨_, (), rfl, fun _ _ => rfl, rfl, Hp.quiet hst hof⟩
    · intro LL xx ac wc sg hst hwant QQ hgo
      exact op_val hwant hgo hst _ (exec_move rfl ((sg.free 7 (by kernel_rfl)).trans so7)) rfl
    · intro LL xx ac wc sg hst hwant QQ hgo
      have se41 : ac.eval (.tmp 41) = _ := (sg.slot 1 (sg.anc 1 rfl))
      have sg41 := gt_of se41
      have se42 : ac.eval (.tmp 42) = _ := (sg.slot 2 (sg.anc 2 rfl))
      have sg42 := gt_of se42
      (try simp only [nth] at se41 sg41 se42 sg42)
      exact op_val hwant hgo hst _ (by simp only [execOp, nth]; go_simp <;> omega) rfl
    · intro LL xx ac wc sg hst hwant QQ hgo
      exact op_val hwant hgo hst _ (exec_move rfl (sg.slot 3 (sg.anc 3 rfl))) rfl
    · intro LL xx ac wc sg hst hwant QQ hgo
      have H := Lib.hid hst
      refine hpA_load tymsg_Request H rfl ((sg.free 3 (by kernel_rfl)).trans so3) hwant (by (repeat (first | exact List.Mem.head _ | apply List.Mem.tail))) (by rfl) rfl ?_
      exact hgo _ () _ (fun _ _ => rfl) rfl hst
    · intro LL xx ac wc sg hst hwant QQ hgo
      have se45 : ac.eval (.tmp 45) = _ := (sg.slot 5 (sg.anc 5 rfl))
      have sg45 := gt_of se45
      (try simp only [nth] at se45 sg45)
      refine op_call hwant hgo 24 #[.agg #[.int .i64 q.kind, .int .i64 q.seq, .int .i64 q.who, .int .i64 q.role, .int .u32 q.token, .int .u64 q.key, .int .i64 q.call.id, .int .i64 q.call.kind, .int .i64 q.call.src, .int .i64 q.call.dst, .int .i64 q.call.car, .int .i64 q.call.state, .int .i64 q.call.owner, .int .i64 q.call.born, .int .i64 q.id, .int .i64 q.car, .int .i64 q.mode, .int .i64 q.filter.kind, .int .i64 q.filter.n]] (by simp only [execOp]; go_simp) (writes q wc) ?_
      rintro er wd ⟨rfl, hof⟩
      exact ⟨_, (), rfl, fun _ _ => rfl, rfl, Hp.quiet hst hof⟩
    · intro LL xx ac wc sg hst hwant QQ hgo
      have se3 : ac.eval (.tmp 3) = _ := ((sg.free 3 (by kernel_rfl)).trans so3)
      have sg3 := gt_of se3
      exact op_val hwant hgo hst _ (by simp only [execOp, nth]; go_simp <;> omega) rfl
    · intro LL xx ac wc sg hst hwant QQ hgo
      have H := Lib.hid hst
      refine hpA_load1 tyint H rfl (sg.slot 7 (sg.anc 7 rfl)) hwant (by (repeat (first | exact List.Mem.head _ | apply List.Mem.tail))) (by rfl) ?_
      exact hgo _ () _ (fun _ _ => rfl) rfl hst
    · intro LL xx ac wc sg hst hwant QQ hgo
      have se48 : ac.eval (.tmp 48) = _ := (sg.slot 8 (sg.anc 8 rfl))
      have sg48 := gt_of se48
      (try simp only [nth] at se48 sg48)
      exact op_val hwant hgo hst _ (by simp only [execOp, nth]; go_simp <;> omega) rfl
    · intro LL xx ac wc sg hst hwant QQ hgo
      exact op_val hwant hgo hst _ (exec_move rfl (sg.slot 9 (sg.anc 9 rfl))) rfl
    · intro LL xx ac wc sg hst hwant QQ hgo
      have hG : (!(q.kind == 4)) = true := (want_f rfl rfl (sg.slot 10 (sg.anc 10 rfl))).symm.trans hwant
      have se3 : ac.eval (.tmp 3) = _ := ((sg.free 3 (by kernel_rfl)).trans so3)
      have sg3 := gt_of se3
      exact op_val hwant hgo hst _ (by simp only [execOp, nth]; go_simp <;> omega) (cI hG)
    · intro LL xx ac wc sg hst hwant QQ hgo
      have hG : (!(q.kind == 4)) = true := (want_f rfl rfl (sg.slot 10 (sg.anc 10 rfl))).symm.trans hwant
      have H := Lib.hid hst
      refine hpA_load1 tyint H rfl (cT (sg.slot 11 (sg.anc 11 rfl)) hG) hwant (by (repeat (first | exact List.Mem.head _ | apply List.Mem.tail))) (by rfl) ?_
      exact hgo _ () _ (fun _ _ => rfl) (cI hG) hst
    · intro LL xx ac wc sg hst hwant QQ hgo
      have hG : (!(q.kind == 4)) = true := (want_f rfl rfl (sg.slot 10 (sg.anc 10 rfl))).symm.trans hwant
      have se52 : ac.eval (.tmp 52) = _ := (cT (sg.slot 12 (sg.anc 12 rfl)) hG)
      have sg52 := gt_of se52
      (try simp only [nth] at se52 sg52)
      exact op_val hwant hgo hst _ (by simp only [execOp, nth]; go_simp <;> omega) (cI hG)
    · intro LL xx ac wc sg hst hwant QQ hgo
      exact op_val hwant hgo hst (.bool ((q.kind == 4) || (q.kind == 5))) (exec_or (Y := q.kind == 5) rfl (sg.slot 10 (sg.anc 10 rfl)) (fun qq => cT (sg.slot 13 (sg.anc 13 rfl)) (bk qq))) rfl
    · intro LL xx ac wc sg hst hwant QQ hgo
      exact op_val hwant hgo hst _ (exec_move rfl (sg.slot 14 (sg.anc 14 rfl))) rfl
    · intro LL xx ac wc sg hst hwant QQ hgo
      have hG : (!((q.kind == 4) || (q.kind == 5))) = true := (want_f rfl rfl (sg.slot 15 (sg.anc 15 rfl))).symm.trans hwant
      have se3 : ac.eval (.tmp 3) = _ := ((sg.free 3 (by kernel_rfl)).trans so3)
      have sg3 := gt_of se3
      exact op_val hwant hgo hst _ (by simp only [execOp, nth]; go_simp <;> omega) (cI hG)
    · intro LL xx ac wc sg hst hwant QQ hgo
      have hG : (!((q.kind == 4) || (q.kind == 5))) = true := (want_f rfl rfl (sg.slot 15 (sg.anc 15 rfl))).symm.trans hwant
      have H := Lib.hid hst
      refine hpA_load1 tyint H rfl (cT (sg.slot 16 (sg.anc 16 rfl)) hG) hwant (by (repeat (first | exact List.Mem.head _ | apply List.Mem.tail))) (by rfl) ?_
      exact hgo _ () _ (fun _ _ => rfl) (cI hG) hst
    · intro LL xx ac wc sg hst hwant QQ hgo
      have hG : (!((q.kind == 4) || (q.kind == 5))) = true := (want_f rfl rfl (sg.slot 15 (sg.anc 15 rfl))).symm.trans hwant
      have se57 : ac.eval (.tmp 57) = _ := (cT (sg.slot 17 (sg.anc 17 rfl)) hG)
      have sg57 := gt_of se57
      (try simp only [nth] at se57 sg57)
      exact op_val hwant hgo hst _ (by simp only [execOp, nth]; go_simp <;> omega) (cI hG)
    · intro LL xx ac wc sg hst hwant QQ hgo
      exact op_val hwant hgo hst (.bool (((q.kind == 4) || (q.kind == 5)) || (q.kind == 10))) (exec_or (Y := q.kind == 10) rfl (sg.slot 15 (sg.anc 15 rfl)) (fun qq => cT (sg.slot 18 (sg.anc 18 rfl)) (bk qq))) rfl
    · intro LL xx ac wc sg hst hwant QQ hgo
      exact op_val hwant hgo hst (.bool false) (exec_bne (c := true) rfl (sg.slot 6 (sg.anc 6 rfl)) (sg.slot 19 (sg.anc 19 rfl)) Try.underlying4 hwr) rfl
    · intro LL xx ac wc sg hst hwant QQ hgo
      exact op_val hwant hgo hst (.bool false) (exec_pick (B := false) (U := undef) (V := .bool false) rfl (sg.slot 4 (sg.anc 4 rfl)) (fun h => by cases h) (fun _ => (sg.slot 20 (sg.anc 20 rfl)))) rfl
    · intro LL xx ac wc sg hst hwant QQ hgo
      exact op_val hwant hgo hst _ (exec_move rfl (sg.slot 21 (sg.anc 21 rfl))) rfl
    · intro LL xx ac wc sg hst hwant QQ hgo
      have H := Lib.hid hst
      refine hpA_load tymsg_Filter H rfl ((sg.free 5 (by kernel_rfl)).trans so5) hwant (by (repeat (first | exact List.Mem.head _ | apply List.Mem.tail))) (by rfl) rfl ?_
      exact hgo _ () _ (fun _ _ => rfl) rfl hst
    · intro LL xx ac wc sg hst hwant QQ hgo
      have se63 : ac.eval (.tmp 63) = _ := (sg.slot 23 (sg.anc 23 rfl))
      have sg63 := gt_of se63
      (try simp only [nth] at se63 sg63)
      refine op_call hwant hgo 25 #[.agg #[.int .i64 f.kind, .int .i64 f.n]] (by simp only [execOp]; go_simp) (filterIs f wc) ?_
      rintro er wd ⟨rfl, hof⟩
      exact ⟨_, (), rfl, fun _ _ => rfl, rfl, Hp.quiet hst hof⟩
    · intro LL xx ac wc sg hst hwant QQ hgo
      have se5 : ac.eval (.tmp 5) = _ := ((sg.free 5 (by kernel_rfl)).trans so5)
      have sg5 := gt_of se5
      exact op_val hwant hgo hst _ (by simp only [execOp, nth]; go_simp <;> omega) rfl
    · intro LL xx ac wc sg hst hwant QQ hgo
      have H := Lib.hid hst
      refine hpA_load1 tyint H rfl (sg.slot 25 (sg.anc 25 rfl)) hwant (by (repeat (first | exact List.Mem.head _ | apply List.Mem.tail))) (by rfl) ?_
      exact hgo _ () _ (fun _ _ => rfl) rfl hst
    · intro LL xx ac wc sg hst hwant QQ hgo
      have se66 : ac.eval (.tmp 66) = _ := (sg.slot 26 (sg.anc 26 rfl))
      have sg66 := gt_of se66
      (try simp only [nth] at se66 sg66)
      exact op_val hwant hgo hst _ (by simp only [execOp, nth]; go_simp <;> omega) rfl
    · intro LL xx ac wc sg hst hwant QQ hgo
      exact op_val hwant hgo hst _ (exec_move rfl (sg.slot 27 (sg.anc 27 rfl))) rfl
    · intro LL xx ac wc sg hst hwant QQ hgo
      have hG : (f.kind == 0) = true := (want_t rfl rfl (sg.slot 28 (sg.anc 28 rfl))).symm.trans hwant
      have se5 : ac.eval (.tmp 5) = _ := ((sg.free 5 (by kernel_rfl)).trans so5)
      have sg5 := gt_of se5
      exact op_val hwant hgo hst _ (by simp only [execOp, nth]; go_simp <;> omega) (cI hG)
    · intro LL xx ac wc sg hst hwant QQ hgo
      have hG : (f.kind == 0) = true := (want_t rfl rfl (sg.slot 28 (sg.anc 28 rfl))).symm.trans hwant
      have H := Lib.hid hst
      refine hpA_load1 tyint H rfl (cT (sg.slot 29 (sg.anc 29 rfl)) hG) hwant (by (repeat (first | exact List.Mem.head _ | apply List.Mem.tail))) (by rfl) ?_
      exact hgo _ () _ (fun _ _ => rfl) (cI hG) hst
    · intro LL xx ac wc sg hst hwant QQ hgo
      have hG : (f.kind == 0) = true := (want_t rfl rfl (sg.slot 28 (sg.anc 28 rfl))).symm.trans hwant
      have se70 : ac.eval (.tmp 70) = _ := (cT (sg.slot 30 (sg.anc 30 rfl)) hG)
      have sg70 := gt_of se70
      (try simp only [nth] at se70 sg70)
      exact op_val hwant hgo hst _ (by simp only [execOp, nth]; go_simp <;> omega) (cI hG)
    · intro LL xx ac wc sg hst hwant QQ hgo
      exact op_val hwant hgo hst (.bool ((f.kind == 0) && (f.n == 0))) (exec_and (Y := f.n == 0) rfl (sg.slot 28 (sg.anc 28 rfl)) (fun qq => cT (sg.slot 31 (sg.anc 31 rfl)) qq)) rfl
    · intro LL xx ac wc sg hst hwant QQ hgo
      exact op_val hwant hgo hst _ (exec_move rfl (sg.slot 32 (sg.anc 32 rfl))) rfl
    · intro LL xx ac wc sg hst hwant QQ hgo
      have hG : (!((f.kind == 0) && (f.n == 0))) = true := (want_f rfl rfl (sg.slot 33 (sg.anc 33 rfl))).symm.trans hwant
      have se5 : ac.eval (.tmp 5) = _ := ((sg.free 5 (by kernel_rfl)).trans so5)
      have sg5 := gt_of se5
      exact op_val hwant hgo hst _ (by simp only [execOp, nth]; go_simp <;> omega) (cI hG)
    · intro LL xx ac wc sg hst hwant QQ hgo
      have hG : (!((f.kind == 0) && (f.n == 0))) = true := (want_f rfl rfl (sg.slot 33 (sg.anc 33 rfl))).symm.trans hwant
      have H := Lib.hid hst
      refine hpA_load1 tyint H rfl (cT (sg.slot 34 (sg.anc 34 rfl)) hG) hwant (by (repeat (first | exact List.Mem.head _ | apply List.Mem.tail))) (by rfl) ?_
      exact hgo _ () _ (fun _ _ => rfl) (cI hG) hst
    · intro LL xx ac wc sg hst hwant QQ hgo
      have hG : (!((f.kind == 0) && (f.n == 0))) = true := (want_f rfl rfl (sg.slot 33 (sg.anc 33 rfl))).symm.trans hwant
      have se75 : ac.eval (.tmp 75) = _ := (cT (sg.slot 35 (sg.anc 35 rfl)) hG)
      have sg75 := gt_of se75
      (try simp only [nth] at se75 sg75)
      exact op_val hwant hgo hst _ (by simp only [execOp, nth]; go_simp <;> omega) (cI hG)
    · intro LL xx ac wc sg hst hwant QQ hgo
      have hG : (!((f.kind == 0) && (f.n == 0))) = true := (want_f rfl rfl (sg.slot 33 (sg.anc 33 rfl))).symm.trans hwant
      exact op_val hwant hgo hst _ (exec_move rfl (cT (sg.slot 36 (sg.anc 36 rfl)) hG)) (cI hG)
    · intro LL xx ac wc sg hst hwant QQ hgo
      have hG : (!((f.kind == 0) && (f.n == 0)) && (decide (0 < f.kind))) = true := (want_gt rfl rfl (sg.slot 37 (sg.anc 37 rfl))).symm.trans hwant
      have se5 : ac.eval (.tmp 5) = _ := ((sg.free 5 (by kernel_rfl)).trans so5)
      have sg5 := gt_of se5
      exact op_val hwant hgo hst _ (by simp only [execOp, nth]; go_simp <;> omega) (cI hG)
    · intro LL xx ac wc sg hst hwant QQ hgo
      have hG : (!((f.kind == 0) && (f.n == 0)) && (decide (0 < f.kind))) = true := (want_gt rfl rfl (sg.slot 37 (sg.anc 37 rfl))).symm.trans hwant
      have H := Lib.hid hst
      refine hpA_load1 tyint H rfl (cT (sg.slot 38 (sg.anc 38 rfl)) hG) hwant (by (repeat (first | exact List.Mem.head _ | apply List.Mem.tail))) (by rfl) ?_
      exact hgo _ () _ (fun _ _ => rfl) (cI hG) hst
    · intro LL xx ac wc sg hst hwant QQ hgo
      have hG : (!((f.kind == 0) && (f.n == 0)) && (decide (0 < f.kind))) = true := (want_gt rfl rfl (sg.slot 37 (sg.anc 37 rfl))).symm.trans hwant
      have se79 : ac.eval (.tmp 79) = _ := (cT (sg.slot 39 (sg.anc 39 rfl)) hG)
      have sg79 := gt_of se79
      (try simp only [nth] at se79 sg79)
      exact op_val hwant hgo hst _ (by simp only [execOp, nth]; go_simp <;> omega) (cI hG)
    · intro LL xx ac wc sg hst hwant QQ hgo
      have hG : (!((f.kind == 0) && (f.n == 0))) = true := (want_f rfl rfl (sg.slot 33 (sg.anc 33 rfl))).symm.trans hwant
      exact op_val hwant hgo hst (.bool ((decide (0 < f.kind)) && (decide (f.kind < 4)))) (exec_and (Y := decide (f.kind < 4)) rfl (cT (sg.slot 37 (sg.anc 37 rfl)) hG) (fun qq => cT (sg.slot 40 (sg.anc 40 rfl)) (bj hG qq))) (cI hG)
    · intro LL xx ac wc sg hst hwant QQ hgo
      have hG : (!((f.kind == 0) && (f.n == 0))) = true := (want_f rfl rfl (sg.slot 33 (sg.anc 33 rfl))).symm.trans hwant
      exact op_val hwant hgo hst _ (exec_move rfl (cT (sg.slot 41 (sg.anc 41 rfl)) hG)) (cI hG)
    · intro LL xx ac wc sg hst hwant QQ hgo
      have hG : (!((f.kind == 0) && (f.n == 0)) && ((decide (0 < f.kind)) && (decide (f.kind < 4)))) = true := (want_gt rfl rfl (sg.slot 42 (sg.anc 42 rfl))).symm.trans hwant
      have se5 : ac.eval (.tmp 5) = _ := ((sg.free 5 (by kernel_rfl)).trans so5)
      have sg5 := gt_of se5
      exact op_val hwant hgo hst _ (by simp only [execOp, nth]; go_simp <;> omega) (cI hG)
    · intro LL xx ac wc sg hst hwant QQ hgo
      have hG : (!((f.kind == 0) && (f.n == 0)) && ((decide (0 < f.kind)) && (decide (f.kind < 4)))) = true := (want_gt rfl rfl (sg.slot 42 (sg.anc 42 rfl))).symm.trans hwant
      have H := Lib.hid hst
      refine hpA_load1 tyint H rfl (cT (sg.slot 43 (sg.anc 43 rfl)) hG) hwant (by (repeat (first | exact List.Mem.head _ | apply List.Mem.tail))) (by rfl) ?_
      exact hgo _ () _ (fun _ _ => rfl) (cI hG) hst
    · intro LL xx ac wc sg hst hwant QQ hgo
      have hG : (!((f.kind == 0) && (f.n == 0)) && ((decide (0 < f.kind)) && (decide (f.kind < 4)))) = true := (want_gt rfl rfl (sg.slot 42 (sg.anc 42 rfl))).symm.trans hwant
      have se84 : ac.eval (.tmp 84) = _ := (cT (sg.slot 44 (sg.anc 44 rfl)) hG)
      have sg84 := gt_of se84
      (try simp only [nth] at se84 sg84)
      exact op_val hwant hgo hst _ (by simp only [execOp, nth]; go_simp <;> omega) (cI hG)
    · intro LL xx ac wc sg hst hwant QQ hgo
      have hG : (!((f.kind == 0) && (f.n == 0))) = true := (want_f rfl rfl (sg.slot 33 (sg.anc 33 rfl))).symm.trans hwant
      exact op_val hwant hgo hst (.bool (((decide (0 < f.kind)) && (decide (f.kind < 4))) && (decide (0 < f.n)))) (exec_and (Y := decide (0 < f.n)) rfl (cT (sg.slot 42 (sg.anc 42 rfl)) hG) (fun qq => cT (sg.slot 45 (sg.anc 45 rfl)) (bj hG qq))) (cI hG)
    · intro LL xx ac wc sg hst hwant QQ hgo
      have hG : (!((f.kind == 0) && (f.n == 0))) = true := (want_f rfl rfl (sg.slot 33 (sg.anc 33 rfl))).symm.trans hwant
      exact op_val hwant hgo hst _ (exec_move rfl (cT (sg.slot 46 (sg.anc 46 rfl)) hG)) (cI hG)
    · intro LL xx ac wc sg hst hwant QQ hgo
      have hG : (!((f.kind == 0) && (f.n == 0)) && (((decide (0 < f.kind)) && (decide (f.kind < 4))) && (decide (0 < f.n)))) = true := (want_gt rfl rfl (sg.slot 47 (sg.anc 47 rfl))).symm.trans hwant
      have se5 : ac.eval (.tmp 5) = _ := ((sg.free 5 (by kernel_rfl)).trans so5)
      have sg5 := gt_of se5
      exact op_val hwant hgo hst _ (by simp only [execOp, nth]; go_simp <;> omega) (cI hG)
    · intro LL xx ac wc sg hst hwant QQ hgo
      have hG : (!((f.kind == 0) && (f.n == 0)) && (((decide (0 < f.kind)) && (decide (f.kind < 4))) && (decide (0 < f.n)))) = true := (want_gt rfl rfl (sg.slot 47 (sg.anc 47 rfl))).symm.trans hwant
      have H := Lib.hid hst
      refine hpA_load1 tyint H rfl (cT (sg.slot 48 (sg.anc 48 rfl)) hG) hwant (by (repeat (first | exact List.Mem.head _ | apply List.Mem.tail))) (by rfl) ?_
      exact hgo _ () _ (fun _ _ => rfl) (cI hG) hst
    · intro LL xx ac wc sg hst hwant QQ hgo
      have hG : (!((f.kind == 0) && (f.n == 0)) && (((decide (0 < f.kind)) && (decide (f.kind < 4))) && (decide (0 < f.n)))) = true := (want_gt rfl rfl (sg.slot 47 (sg.anc 47 rfl))).symm.trans hwant
      have se89 : ac.eval (.tmp 89) = _ := (cT (sg.slot 49 (sg.anc 49 rfl)) hG)
      have sg89 := gt_of se89
      (try simp only [nth] at se89 sg89)
      exact op_val hwant hgo hst _ (by simp only [execOp, nth]; go_simp <;> omega) (cI hG)
    · intro LL xx ac wc sg hst hwant QQ hgo
      have hG : (!((f.kind == 0) && (f.n == 0))) = true := (want_f rfl rfl (sg.slot 33 (sg.anc 33 rfl))).symm.trans hwant
      exact op_val hwant hgo hst (.bool ((((decide (0 < f.kind)) && (decide (f.kind < 4))) && (decide (0 < f.n))) && (decide (f.n ≤ 1073741824)))) (exec_and (Y := decide (f.n ≤ 1073741824)) rfl (cT (sg.slot 47 (sg.anc 47 rfl)) hG) (fun qq => cT (sg.slot 50 (sg.anc 50 rfl)) (bj hG qq))) (cI hG)
    · intro LL xx ac wc sg hst hwant QQ hgo
      exact op_val hwant hgo hst (.bool (((f.kind == 0) && (f.n == 0)) || ((((decide (0 < f.kind)) && (decide (f.kind < 4))) && (decide (0 < f.n))) && (decide (f.n ≤ 1073741824))))) (exec_or (Y := (((decide (0 < f.kind)) && (decide (f.kind < 4))) && (decide (0 < f.n))) && (decide (f.n ≤ 1073741824))) rfl (sg.slot 33 (sg.anc 33 rfl)) (fun qq => cT (sg.slot 51 (sg.anc 51 rfl)) (bk qq))) rfl
    · intro LL xx ac wc sg hst hwant QQ hgo
      exact op_val hwant hgo hst (.bool false) (exec_bne (c := true) rfl (sg.slot 24 (sg.anc 24 rfl)) (sg.slot 52 (sg.anc 52 rfl)) Try.underlying4 hfl) rfl
    · intro LL xx ac wc sg hst hwant QQ hgo
      exact op_val hwant hgo hst (.bool false) (exec_pick (B := false) (U := undef) (V := .bool false) rfl (sg.slot 22 (sg.anc 22 rfl)) (fun h => by cases h) (fun _ => (sg.slot 53 (sg.anc 53 rfl)))) rfl
  · refine skips [5, 6, 7, 8, 9, 10, 11, 12, 13, 14, 15, 16, 17, 18, 19, 20, 23, 24, 25, 26, 27, 28, 29, 30, 31, 32, 33, 34, 35, 36, 37, 38, 39, 40, 41, 42, 43, 44, 45, 46, 47, 48, 49, 50, 51, 52, 53] (by kernel_rfl) ?_
    refine List.forall_mem_cons.2 ⟨?_, List.forall_mem_cons.2 ⟨?_, List.forall_mem_cons.2 ⟨?_, List.forall_mem_cons.2 ⟨?_, List.forall_mem_cons.2 ⟨?_, List.forall_mem_cons.2 ⟨?_, List.forall_mem_cons.2 ⟨?_, List.forall_mem_cons.2 ⟨?_, List.forall_mem_cons.2 ⟨?_, List.forall_mem_cons.2 ⟨?_, List.forall_mem_cons.2 ⟨?_, List.forall_mem_cons.2 ⟨?_, List.forall_mem_cons.2 ⟨?_, List.forall_mem_cons.2 ⟨?_, List.forall_mem_cons.2 ⟨?_, List.forall_mem_cons.2 ⟨?_, List.forall_mem_cons.2 ⟨?_, List.forall_mem_cons.2 ⟨?_, List.forall_mem_cons.2 ⟨?_, List.forall_mem_cons.2 ⟨?_, List.forall_mem_cons.2 ⟨?_, List.forall_mem_cons.2 ⟨?_, List.forall_mem_cons.2 ⟨?_, List.forall_mem_cons.2 ⟨?_, List.forall_mem_cons.2 ⟨?_, List.forall_mem_cons.2 ⟨?_, List.forall_mem_cons.2 ⟨?_, List.forall_mem_cons.2 ⟨?_, List.forall_mem_cons.2 ⟨?_, List.forall_mem_cons.2 ⟨?_, List.forall_mem_cons.2 ⟨?_, List.forall_mem_cons.2 ⟨?_, List.forall_mem_cons.2 ⟨?_, List.forall_mem_cons.2 ⟨?_, List.forall_mem_cons.2 ⟨?_, List.forall_mem_cons.2 ⟨?_, List.forall_mem_cons.2 ⟨?_, List.forall_mem_cons.2 ⟨?_, List.forall_mem_cons.2 ⟨?_, List.forall_mem_cons.2 ⟨?_, List.forall_mem_cons.2 ⟨?_, List.forall_mem_cons.2 ⟨?_, List.forall_mem_cons.2 ⟨?_, List.forall_mem_cons.2 ⟨?_, List.forall_mem_cons.2 ⟨?_, List.forall_mem_cons.2 ⟨?_, List.forall_mem_cons.2 ⟨?_, fun _ h => by cases h⟩⟩⟩⟩⟩⟩⟩⟩⟩⟩⟩⟩⟩⟩⟩⟩⟩⟩⟩⟩⟩⟩⟩⟩⟩⟩⟩⟩⟩⟩⟩⟩⟩⟩⟩⟩⟩⟩⟩⟩⟩⟩⟩⟩⟩⟩⟩
    · intro oo hop LL xx ac sg hwant
      cases Option.some.inj hop
      exact absurd ((want_f rfl rfl (sg.slot 4 (sg.anc 4 rfl))).symm.trans hwant) (by decide)
    · intro oo hop LL xx ac sg hwant
      cases Option.some.inj hop
      exact absurd ((want_f rfl rfl (sg.slot 4 (sg.anc 4 rfl))).symm.trans hwant) (by decide)
    · intro oo hop LL xx ac sg hwant
      cases Option.some.inj hop
      exact absurd ((want_f rfl rfl (sg.slot 4 (sg.anc 4 rfl))).symm.trans hwant) (by decide)
    · intro oo hop LL xx ac sg hwant
      cases Option.some.inj hop
      exact absurd ((want_f rfl rfl (sg.slot 4 (sg.anc 4 rfl))).symm.trans hwant) (by decide)
    · intro oo hop LL xx ac sg hwant
      cases Option.some.inj hop
      exact absurd ((want_f rfl rfl (sg.slot 4 (sg.anc 4 rfl))).symm.trans hwant) (by decide)
    · intro oo hop LL xx ac sg hwant
      cases Option.some.inj hop
      exact absurd ((want_f rfl rfl (sg.slot 4 (sg.anc 4 rfl))).symm.trans hwant) (by decide)
    · intro oo hop LL xx ac sg hwant
      cases Option.some.inj hop
      have hG : (!(q.kind == 4)) = false := (want_f rfl rfl (sg.slot 10 (sg.anc 10 rfl))).symm.trans hwant
      exact ⟨cF hG, fun _ h => h⟩
    · intro oo hop LL xx ac sg hwant
      cases Option.some.inj hop
      have hG : (!(q.kind == 4)) = false := (want_f rfl rfl (sg.slot 10 (sg.anc 10 rfl))).symm.trans hwant
      exact ⟨cF hG, fun _ h => h⟩
    · intro oo hop LL xx ac sg hwant
      cases Option.some.inj hop
      have hG : (!(q.kind == 4)) = false := (want_f rfl rfl (sg.slot 10 (sg.anc 10 rfl))).symm.trans hwant
      exact ⟨cF hG, fun _ h => h⟩
    · intro oo hop LL xx ac sg hwant
      cases Option.some.inj hop
      exact absurd ((want_f rfl rfl (sg.slot 4 (sg.anc 4 rfl))).symm.trans hwant) (by decide)
    · intro oo hop LL xx ac sg hwant
      cases Option.some.inj hop
      exact absurd ((want_f rfl rfl (sg.slot 4 (sg.anc 4 rfl))).symm.trans hwant) (by decide)
    · intro oo hop LL xx ac sg hwant
      cases Option.some.inj hop
      have hG : (!((q.kind == 4) || (q.kind == 5))) = false := (want_f rfl rfl (sg.slot 15 (sg.anc 15 rfl))).symm.trans hwant
      exact ⟨cF hG, fun _ h => h⟩
    · intro oo hop LL xx ac sg hwant
      cases Option.some.inj hop
      have hG : (!((q.kind == 4) || (q.kind == 5))) = false := (want_f rfl rfl (sg.slot 15 (sg.anc 15 rfl))).symm.trans hwant
      exact ⟨cF hG, fun _ h => h⟩
    · intro oo hop LL xx ac sg hwant
      cases Option.some.inj hop
      have hG : (!((q.kind == 4) || (q.kind == 5))) = false := (want_f rfl rfl (sg.slot 15 (sg.anc 15 rfl))).symm.trans hwant
      exact ⟨cF hG, fun _ h => h⟩
    · intro oo hop LL xx ac sg hwant
      cases Option.some.inj hop
      exact absurd ((want_f rfl rfl (sg.slot 4 (sg.anc 4 rfl))).symm.trans hwant) (by decide)
    · intro oo hop LL xx ac sg hwant
      cases Option.some.inj hop
      exact absurd ((want_f rfl rfl (sg.slot 4 (sg.anc 4 rfl))).symm.trans hwant) (by decide)
    · intro oo hop LL xx ac sg hwant
      cases Option.some.inj hop
      exact absurd ((want_f rfl rfl (sg.slot 22 (sg.anc 22 rfl))).symm.trans hwant) (by decide)
    · intro oo hop LL xx ac sg hwant
      cases Option.some.inj hop
      exact absurd ((want_f rfl rfl (sg.slot 22 (sg.anc 22 rfl))).symm.trans hwant) (by decide)
    · intro oo hop LL xx ac sg hwant
      cases Option.some.inj hop
      exact absurd ((want_f rfl rfl (sg.slot 22 (sg.anc 22 rfl))).symm.trans hwant) (by decide)
    · intro oo hop LL xx ac sg hwant
      cases Option.some.inj hop
      exact absurd ((want_f rfl rfl (sg.slot 22 (sg.anc 22 rfl))).symm.trans hwant) (by decide)
    · intro oo hop LL xx ac sg hwant
      cases Option.some.inj hop
      exact absurd ((want_f rfl rfl (sg.slot 22 (sg.anc 22 rfl))).symm.trans hwant) (by decide)
    · intro oo hop LL xx ac sg hwant
      cases Option.some.inj hop
      exact absurd ((want_f rfl rfl (sg.slot 22 (sg.anc 22 rfl))).symm.trans hwant) (by decide)
    · intro oo hop LL xx ac sg hwant
      cases Option.some.inj hop
      have hG : (f.kind == 0) = false := (want_t rfl rfl (sg.slot 28 (sg.anc 28 rfl))).symm.trans hwant
      exact ⟨cF hG, fun _ h => h⟩
    · intro oo hop LL xx ac sg hwant
      cases Option.some.inj hop
      have hG : (f.kind == 0) = false := (want_t rfl rfl (sg.slot 28 (sg.anc 28 rfl))).symm.trans hwant
      exact ⟨cF hG, fun _ h => h⟩
    · intro oo hop LL xx ac sg hwant
      cases Option.some.inj hop
      have hG : (f.kind == 0) = false := (want_t rfl rfl (sg.slot 28 (sg.anc 28 rfl))).symm.trans hwant
      exact ⟨cF hG, fun _ h => h⟩
    · intro oo hop LL xx ac sg hwant
      cases Option.some.inj hop
      exact absurd ((want_f rfl rfl (sg.slot 22 (sg.anc 22 rfl))).symm.trans hwant) (by decide)
    · intro oo hop LL xx ac sg hwant
      cases Option.some.inj hop
      exact absurd ((want_f rfl rfl (sg.slot 22 (sg.anc 22 rfl))).symm.trans hwant) (by decide)
    · intro oo hop LL xx ac sg hwant
      cases Option.some.inj hop
      have hG : (!((f.kind == 0) && (f.n == 0))) = false := (want_f rfl rfl (sg.slot 33 (sg.anc 33 rfl))).symm.trans hwant
      exact ⟨cF hG, fun _ h => h⟩
    · intro oo hop LL xx ac sg hwant
      cases Option.some.inj hop
      have hG : (!((f.kind == 0) && (f.n == 0))) = false := (want_f rfl rfl (sg.slot 33 (sg.anc 33 rfl))).symm.trans hwant
      exact ⟨cF hG, fun _ h => h⟩
    · intro oo hop LL xx ac sg hwant
      cases Option.some.inj hop
      have hG : (!((f.kind == 0) && (f.n == 0))) = false := (want_f rfl rfl (sg.slot 33 (sg.anc 33 rfl))).symm.trans hwant
      exact ⟨cF hG, fun _ h => h⟩
    · intro oo hop LL xx ac sg hwant
      cases Option.some.inj hop
      have hG : (!((f.kind == 0) && (f.n == 0))) = false := (want_f rfl rfl (sg.slot 33 (sg.anc 33 rfl))).symm.trans hwant
      exact ⟨cF hG, fun _ h => h⟩
    · intro oo hop LL xx ac sg hwant
      cases Option.some.inj hop
      have hG : (!((f.kind == 0) && (f.n == 0)) && (decide (0 < f.kind))) = false := (want_gt rfl rfl (sg.slot 37 (sg.anc 37 rfl))).symm.trans hwant
      exact ⟨cF hG, fun _ h => h⟩
    · intro oo hop LL xx ac sg hwant
      cases Option.some.inj hop
      have hG : (!((f.kind == 0) && (f.n == 0)) && (decide (0 < f.kind))) = false := (want_gt rfl rfl (sg.slot 37 (sg.anc 37 rfl))).symm.trans hwant
      exact ⟨cF hG, fun _ h => h⟩
    · intro oo hop LL xx ac sg hwant
      cases Option.some.inj hop
      have hG : (!((f.kind == 0) && (f.n == 0)) && (decide (0 < f.kind))) = false := (want_gt rfl rfl (sg.slot 37 (sg.anc 37 rfl))).symm.trans hwant
      exact ⟨cF hG, fun _ h => h⟩
    · intro oo hop LL xx ac sg hwant
      cases Option.some.inj hop
      have hG : (!((f.kind == 0) && (f.n == 0))) = false := (want_f rfl rfl (sg.slot 33 (sg.anc 33 rfl))).symm.trans hwant
      exact ⟨cF hG, fun _ h => h⟩
    · intro oo hop LL xx ac sg hwant
      cases Option.some.inj hop
      have hG : (!((f.kind == 0) && (f.n == 0))) = false := (want_f rfl rfl (sg.slot 33 (sg.anc 33 rfl))).symm.trans hwant
      exact ⟨cF hG, fun _ h => h⟩
    · intro oo hop LL xx ac sg hwant
      cases Option.some.inj hop
      have hG : (!((f.kind == 0) && (f.n == 0)) && ((decide (0 < f.kind)) && (decide (f.kind < 4)))) = false := (want_gt rfl rfl (sg.slot 42 (sg.anc 42 rfl))).symm.trans hwant
      exact ⟨cF hG, fun _ h => h⟩
    · intro oo hop LL xx ac sg hwant
      cases Option.some.inj hop
      have hG : (!((f.kind == 0) && (f.n == 0)) && ((decide (0 < f.kind)) && (decide (f.kind < 4)))) = false := (want_gt rfl rfl (sg.slot 42 (sg.anc 42 rfl))).symm.trans hwant
      exact ⟨cF hG, fun _ h => h⟩
    · intro oo hop LL xx ac sg hwant
      cases Option.some.inj hop
      have hG : (!((f.kind == 0) && (f.n == 0)) && ((decide (0 < f.kind)) && (decide (f.kind < 4)))) = false := (want_gt rfl rfl (sg.slot 42 (sg.anc 42 rfl))).symm.trans hwant
      exact ⟨cF hG, fun _ h => h⟩
    · intro oo hop LL xx ac sg hwant
      cases Option.some.inj hop
      have hG : (!((f.kind == 0) && (f.n == 0))) = false := (want_f rfl rfl (sg.slot 33 (sg.anc 33 rfl))).symm.trans hwant
      exact ⟨cF hG, fun _ h => h⟩
    · intro oo hop LL xx ac sg hwant
      cases Option.some.inj hop
      have hG : (!((f.kind == 0) && (f.n == 0))) = false := (want_f rfl rfl (sg.slot 33 (sg.anc 33 rfl))).symm.trans hwant
      exact ⟨cF hG, fun _ h => h⟩
    · intro oo hop LL xx ac sg hwant
      cases Option.some.inj hop
      have hG : (!((f.kind == 0) && (f.n == 0)) && (((decide (0 < f.kind)) && (decide (f.kind < 4))) && (decide (0 < f.n)))) = false := (want_gt rfl rfl (sg.slot 47 (sg.anc 47 rfl))).symm.trans hwant
      exact ⟨cF hG, fun _ h => h⟩
    · intro oo hop LL xx ac sg hwant
      cases Option.some.inj hop
      have hG : (!((f.kind == 0) && (f.n == 0)) && (((decide (0 < f.kind)) && (decide (f.kind < 4))) && (decide (0 < f.n)))) = false := (want_gt rfl rfl (sg.slot 47 (sg.anc 47 rfl))).symm.trans hwant
      exact ⟨cF hG, fun _ h => h⟩
    · intro oo hop LL xx ac sg hwant
      cases Option.some.inj hop
      have hG : (!((f.kind == 0) && (f.n == 0)) && (((decide (0 < f.kind)) && (decide (f.kind < 4))) && (decide (0 < f.n)))) = false := (want_gt rfl rfl (sg.slot 47 (sg.anc 47 rfl))).symm.trans hwant
      exact ⟨cF hG, fun _ h => h⟩
    · intro oo hop LL xx ac sg hwant
      cases Option.some.inj hop
      have hG : (!((f.kind == 0) && (f.n == 0))) = false := (want_f rfl rfl (sg.slot 33 (sg.anc 33 rfl))).symm.trans hwant
      exact ⟨cF hG, fun _ h => h⟩
    · intro oo hop LL xx ac sg hwant
      cases Option.some.inj hop
      exact absurd ((want_f rfl rfl (sg.slot 22 (sg.anc 22 rfl))).symm.trans hwant) (by decide)
    · intro oo hop LL xx ac sg hwant
      cases Option.some.inj hop
      exact absurd ((want_f rfl rfl (sg.slot 22 (sg.anc 22 rfl))).symm.trans hwant) (by decide)
  · intro xx ac1 wz hfr hsl hst
    exact hfin ac1 wz (hfr.size.trans hz) hfr.defers (fr_keep hfr [40, 41, 42, 43, 44, 45, 46, 47, 48, 49, 50, 51, 52, 53, 54, 55, 56, 57, 58, 59, 60, 61, 62, 63, 64, 65, 66, 67, 68, 69, 70, 71, 72, 73, 74, 75, 76, 77, 78, 79, 80, 81, 82, 83, 84, 85, 86, 87, 88, 89, 90, 91, 92, 93, 94] (by kernel_rfl)) (hsl 54 (by decide)) (Lib.hid hst)
set_option maxHeartbeats 8000000 in
set_option maxRecDepth 20000 in
theorem parts_w_r10x1 (q : ReqV) (s : ByteArray) (f : FilterV) (hq : okReq q) (hib1 : 0 ≤ idxB s 1 ∧ idxB s 1 ≤ 255) (hib2 : 0 ≤ idxB s 2 ∧ idxB s 2 ≤ 255) (hib3 : 0 ≤ idxB s 3 ∧ idxB s 3 ≤ 255) (hib4 : 0 ≤ idxB s 4 ∧ idxB s 4 ≤ 255) (hwi1 : IntKind.i64.wrap (idxB s 1) = idxB s 1) (hwi2 : IntKind.i64.wrap (idxB s 2) = idxB s 2) (hwi3 : IntKind.i64.wrap (idxB s 3) = idxB s 3) (hwi4 : IntKind.i64.wrap (idxB s 4) = idxB s 4) (b3 : Nat) (b5 : Nat) (z1d : ¬ (256 < (s.size : Int))) (z2d : 5 ≤ (s.size : Int)) (z3d : ¬ (1073741824 < (((((idxB s 1) * 16777216) + ((idxB s 2) * 65536)) + ((idxB s 3) * 256)) + (idxB s 4)))) (hsq : ((seqV s) != (((((idxB s 1) * 16777216) + ((idxB s 2) * 65536)) + ((idxB s 3) * 256)) + (idxB s 4))) = false) (hwr : ((writesV q) == (((q.kind == 4) || (q.kind == 5)) || (q.kind == 10))) = true) (hfl : ((isFilterV f) == (((f.kind == 0) && (f.n == 0)) || ((((decide (0 < f.kind)) && (decide (f.kind < 4))) && (decide (0 < f.n))) && (decide (f.n ≤ 1073741824))))) = true) {wa wb : World} (H : Hid (Hp [] wa wb [rB b5 27 [.int .i64 f.kind, .int .i64 f.n], rB b3 29 [.int .i64 q.kind, .int .i64 q.seq, .int .i64 q.who, .int .i64 q.role, .int .u32 q.token, .int .u64 q.key, .int .i64 q.call.id, .int .i64 q.call.kind, .int .i64 q.call.src, .int .i64 q.call.dst, .int .i64 q.call.car, .int .i64 q.call.state, .int .i64 q.call.owner, .int .i64 q.call.born, .int .i64 q.id, .int .i64 q.car, .int .i64 q.mode, .int .i64 q.filter.kind, .int .i64 q.filter.n]])) (ac0 : Act) (hz : ac0.tmps.size = 122) (so1 : ac0.eval (.tmp 1) = .string s) (so3 : ac0.eval (.tmp 3) = .pointer (some ⟨b3, 0, none⟩)) (so5 : ac0.eval (.tmp 5) = .pointer (some ⟨b5, 0, none⟩)) (so7 : ac0.eval (.tmp 7) = .int .i64 (((((idxB s 1) * 16777216) + ((idxB s 2) * 65536)) + ((idxB s 3) * 256)) + (idxB s 4))) {QR : Exit → Act → World → Prop} (hfin : ∀ (ac1 : Act) (wz : World), ac1.tmps.size = 122 → ac1.defers = ac0.defers → (∀ t, ([40, 41, 42, 43, 44, 45, 46, 47, 48, 49, 50, 51, 52, 53, 54, 55, 56, 57, 58, 59, 60, 61, 62, 63, 64, 65, 66, 67, 68, 69, 70, 71, 72, 73, 74, 75, 76, 77, 78, 79, 80, 81, 82, 83, 84, 85, 86, 87, 88, 89, 90, 91, 92, 93, 94] : List Nat).contains t = false → ac1.eval (.tmp t) = ac0.eval (.tmp t)) → ac1.eval (.tmp 94) = .bool false →  Hid (Hp [] wa wz [rB b5 27 [.int .i64 f.kind, .int .i64 f.n], rB b3 29 [.int .i64 q.kind, .int .i64 q.seq, .int .i64 q.who, .int .i64 q.role, .int .u32 q.token, .int .u64 q.key, .int .i64 q.call.id, .int .i64 q.call.kind, .int .i64 q.call.src, .int .i64 q.call.dst, .int .i64 q.call.car, .int .i64 q.call.state, .int .i64 q.call.owner, .int .i64 q.call.born, .int .i64 q.id, .int .i64 q.car, .int .i64 q.mode, .int .i64 q.filter.kind, .int .i64 q.filter.n]]) → QR .normal ac1 wz) : (regAt Try.f6 10).wp Try.prog QR ac0 wb := by
  refine wp_region_st mixedP ⟨[0, 1, 0, 2, 3, 4, 5, 4, 5, 6, 7, 8, 9, 10, 11, 12, 13, 14, 15, 16, 17, 18, 19, 20, 21, 20, 21, 22, 23, 24, 25, 26, 27, 28, 29, 30, 31, 32, 33, 34, 35, 36, 37, 38, 39, 40, 41, 42, 43, 44, 45, 46, 47, 48, 49], by kernel_rfl⟩ [[], [0], [], [0, 1, 2], [0, 1, 2, 3], [0, 1, 2, 3, 4], [0, 1, 2, 3, 4, 5], [0, 1, 2, 3, 4], [0, 1, 2, 3, 4, 7], [0, 1, 2, 3, 4, 7, 8], [0, 1, 2, 3, 4, 5, 6, 7, 8, 9], [0, 1, 2, 3, 4, 5, 6, 7, 8, 9, 10], [0, 1, 2, 3, 4, 5, 6, 7, 8, 9, 10, 11], [0, 1, 2, 3, 4, 5, 6, 7, 8, 9, 10, 11, 12], [0, 1, 2, 3, 4, 5, 6, 7, 8, 9, 10, 11, 12, 13], [0, 1, 2, 3, 4, 5, 6, 7, 8, 9, 10, 11, 12, 13, 14], [0, 1, 2, 3, 4, 5, 6, 7, 8, 9, 10, 11, 12, 13, 14, 15], [0, 1, 2, 3, 4, 5, 6, 7, 8, 9, 10, 11, 12, 13, 14, 15, 16], [0, 1, 2, 3, 4, 5, 6, 7, 8, 9, 10, 11, 12, 13, 14, 15, 16, 17], [0, 1, 2, 3, 4, 5, 6, 7, 8, 9, 10, 11, 12, 13, 14, 15, 16, 17, 18], [0, 1, 2, 3, 4, 5, 6, 7, 8, 9, 10, 11, 12, 13, 14, 15, 16, 17, 18, 19], [0, 1, 2, 3, 4, 5, 6, 7, 8, 9, 10, 11, 12, 13, 14, 15, 16, 17, 18, 19, 20], [0, 1, 2, 3, 4, 5, 6, 7, 8, 9, 10, 11, 12, 13, 14, 15, 16, 17, 18, 19, 20, 21], [0, 1, 2, 3, 4, 5, 6, 7, 8, 9, 10, 11, 12, 13, 14, 15, 16, 17, 18, 19, 20, 21, 22], [0, 1, 2, 3, 4, 5, 6, 7, 8, 9, 10, 11, 12, 13, 14, 15, 16, 17, 18, 19, 20, 21, 22, 23], [0, 1, 2, 3, 4, 5, 6, 7, 8, 9, 10, 11, 12, 13, 14, 15, 16, 17, 18, 19, 20, 21, 22], [0, 1, 2, 3, 4, 5, 6, 7, 8, 9, 10, 11, 12, 13, 14, 15, 16, 17, 18, 19, 20, 21, 22, 25], [0, 1, 2, 3, 4, 5, 6, 7, 8, 9, 10, 11, 12, 13, 14, 15, 16, 17, 18, 19, 20, 21, 22, 25, 26], [0, 1, 2, 3, 4, 5, 6, 7, 8, 9, 10, 11, 12, 13, 14, 15, 16, 17, 18, 19, 20, 21, 22, 23, 24, 25, 26, 27], [0, 1, 2, 3, 4, 5, 6, 7, 8, 9, 10, 11, 12, 13, 14, 15, 16, 17, 18, 19, 20, 21, 22, 23, 24, 25, 26, 27, 28], [0, 1, 2, 3, 4, 5, 6, 7, 8, 9, 10, 11, 12, 13, 14, 15, 16, 17, 18, 19, 20, 21, 22, 23, 24, 25, 26, 27, 28, 29], [0, 1, 2, 3, 4, 5, 6, 7, 8, 9, 10, 11, 12, 13, 14, 15, 16, 17, 18, 19, 20, 21, 22, 23, 24, 25, 26, 27, 28, 29, 30], [0, 1, 2, 3, 4, 5, 6, 7, 8, 9, 10, 11, 12, 13, 14, 15, 16, 17, 18, 19, 20, 21, 22, 23, 24, 25, 26, 27, 28, 29, 30, 31], [0, 1, 2, 3, 4, 5, 6, 7, 8, 9, 10, 11, 12, 13, 14, 15, 16, 17, 18, 19, 20, 21, 22, 23, 24, 25, 26, 27, 28, 29, 30, 31, 32], [0, 1, 2, 3, 4, 5, 6, 7, 8, 9, 10, 11, 12, 13, 14, 15, 16, 17, 18, 19, 20, 21, 22, 23, 24, 25, 26, 27, 28, 29, 30, 31, 32, 33], [0, 1, 2, 3, 4, 5, 6, 7, 8, 9, 10, 11, 12, 13, 14, 15, 16, 17, 18, 19, 20, 21, 22, 23, 24, 25, 26, 27, 28, 29, 30, 31, 32, 33, 34], [0, 1, 2, 3, 4, 5, 6, 7, 8, 9, 10, 11, 12, 13, 14, 15, 16, 17, 18, 19, 20, 21, 22, 23, 24, 25, 26, 27, 28, 29, 30, 31, 32, 33, 34, 35], [0, 1, 2, 3, 4, 5, 6, 7, 8, 9, 10, 11, 12, 13, 14, 15, 16, 17, 18, 19, 20, 21, 22, 23, 24, 25, 26, 27, 28, 29, 30, 31, 32, 33, 34, 35, 36], [0, 1, 2, 3, 4, 5, 6, 7, 8, 9, 10, 11, 12, 13, 14, 15, 16, 17, 18, 19, 20, 21, 22, 23, 24, 25, 26, 27, 28, 29, 30, 31, 32, 33, 34, 35, 36, 37], [0, 1, 2, 3, 4, 5, 6, 7, 8, 9, 10, 11, 12, 13, 14, 15, 16, 17, 18, 19, 20, 21, 22, 23, 24, 25, 26, 27, 28, 29, 30, 31, 32, 33, 34, 35, 36, 37, 38], [0, 1, 2, 3, 4, 5, 6, 7, 8, 9, 10, 11, 12, 13, 14, 15, 16, 17, 18, 19, 20, 21, 22, 23, 24, 25, 26, 27, 28, 29, 30, 31, 32, 33, 34, 35, 36, 37, 38, 39], [0, 1, 2, 3, 4, 5, 6, 7, 8, 9, 10, 11, 12, 13, 14, 15, 16, 17, 18, 19, 20, 21, 22, 23, 24, 25, 26, 27, 28, 29, 30, 31, 32, 33, 34, 35, 36, 37, 38, 39, 40], [0, 1, 2, 3, 4, 5, 6, 7, 8, 9, 10, 11, 12, 13, 14, 15, 16, 17, 18, 19, 20, 21, 22, 23, 24, 25, 26, 27, 28, 29, 30, 31, 32, 33, 34, 35, 36, 37, 38, 39, 40, 41], [0, 1, 2, 3, 4, 5, 6, 7, 8, 9, 10, 11, 12, 13, 14, 15, 16, 17, 18, 19, 20, 21, 22, 23, 24, 25, 26, 27, 28, 29, 30, 31, 32, 33, 34, 35, 36, 37, 38, 39, 40, 41, 42], [0, 1, 2, 3, 4, 5, 6, 7, 8, 9, 10, 11, 12, 13, 14, 15, 16, 17, 18, 19, 20, 21, 22, 23, 24, 25, 26, 27, 28, 29, 30, 31, 32, 33, 34, 35, 36, 37, 38, 39, 40, 41, 42, 43], [0, 1, 2, 3, 4, 5, 6, 7, 8, 9, 10, 11, 12, 13, 14, 15, 16, 17, 18, 19, 20, 21, 22, 23, 24, 25, 26, 27, 28, 29, 30, 31, 32, 33, 34, 35, 36, 37, 38, 39, 40, 41, 42, 43, 44], [0, 1, 2, 3, 4, 5, 6, 7, 8, 9, 10, 11, 12, 13, 14, 15, 16, 17, 18, 19, 20, 21, 22, 23, 24, 25, 26, 27, 28, 29, 30, 31, 32, 33, 34, 35, 36, 37, 38, 39, 40, 41, 42, 43, 44, 45], [0, 1, 2, 3, 4, 5, 6, 7, 8, 9, 10, 11, 12, 13, 14, 15, 16, 17, 18, 19, 20, 21, 22, 23, 24, 25, 26, 27, 28, 29, 30, 31, 32, 33, 34, 35, 36, 37, 38, 39, 40, 41, 42, 43, 44, 45, 46], [0, 1, 2, 3, 4, 5, 6, 7, 8, 9, 10, 11, 12, 13, 14, 15, 16, 17, 18, 19, 20, 21, 22, 23, 24, 25, 26, 27, 28, 29, 30, 31, 32, 33, 34, 35, 36, 37, 38, 39, 40, 41, 42, 43, 44, 45, 46, 47], [0, 1, 2, 3, 4, 5, 6, 7, 8, 9, 10, 11, 12, 13, 14, 15, 16, 17, 18, 19, 20, 21, 22, 23, 24, 25, 26, 27, 28, 29, 30, 31, 32, 33, 34, 35, 36, 37, 38, 39, 40, 41, 42, 43, 44, 45, 46, 47, 48], [0, 1, 2, 3, 4, 5, 6, 7, 8, 9, 10, 11, 12, 13, 14, 15, 16, 17, 18, 19, 20, 21, 22, 23, 24, 25, 26, 27, 28, 29, 30, 31, 32, 33, 34, 35, 36, 37, 38, 39, 40, 41, 42, 43, 44, 45, 46, 47, 48, 49], [0, 1, 2, 3, 4, 5, 6, 7, 8, 9, 10, 11, 12, 13, 14, 15, 16, 17, 18, 19, 20, 21, 22, 23, 24, 25, 26, 27, 28, 29, 30, 31, 32, 33, 34, 35, 36, 37, 38, 39, 40, 41, 42, 43, 44, 45, 46, 47, 48, 49, 50], [0, 1, 2, 3, 4, 5, 6, 7, 8, 9, 10, 11, 12, 13, 14, 15, 16, 17, 18, 19, 20, 21, 22, 23, 24, 25, 26, 27, 28, 29, 30, 31, 32, 33, 34, 35, 36, 37, 38, 39, 40, 41, 42, 43, 44, 45, 46, 47, 48, 49, 50, 51], [0, 1, 2, 3, 4, 5, 6, 7, 8, 9, 10, 11, 12, 13, 14, 15, 16, 17, 18, 19, 20, 21, 22, 23, 24, 25, 26, 27, 28, 29, 30, 31, 32, 33, 34, 35, 36, 37, 38, 39, 40, 41, 42, 43, 44, 45, 46, 47, 48, 49, 50, 51, 52], [0, 1, 2, 3, 4, 5, 6, 7, 8, 9, 10, 11, 12, 13, 14, 15, 16, 17, 18, 19, 20, 21, 22, 23, 24, 25, 26, 27, 28, 29, 30, 31, 32, 33, 34, 35, 36, 37, 38, 39, 40, 41, 42, 43, 44, 45, 46, 47, 48, 49, 50, 51, 52, 53]] (by kernel_rfl) (by kernel_rfl) 122 hz (by kernel_rfl) (fun (xx : Unit) jx => nth [.string s, .int .i64 (seqV s), .int .i64 (((((idxB s 1) * 16777216) + ((idxB s 2) * 65536)) + ((idxB s 3) * 256)) + (idxB s 4)), .bool false, .bool false, .agg #[.int .i64 q.kind, .int .i64 q.seq, .int .i64 q.who, .int .i64 q.role, .int .u32 q.token, .int .u64 q.key, .int .i64 q.call.id, .int .i64 q.call.kind, .int .i64 q.call.src, .int .i64 q.call.dst, .int .i64 q.call.car, .int .i64 q.call.state, .int .i64 q.call.owner, .int .i64 q.call.born, .int .i64 q.id, .int .i64 q.car, .int .i64 q.mode, .int .i64 q.filter.kind, .int .i64 q.filter.n], .bool (writesV q), .pointer (some ⟨b3, 0, none⟩), .int .i64 q.kind, .bool (q.kind == 4), .bool (q.kind == 4), bif !(q.kind == 4) then .pointer (some ⟨b3, 0, none⟩) else undef, bif !(q.kind == 4) then .int .i64 q.kind else undef, bif !(q.kind == 4) then .bool (q.kind == 5) else undef, .bool ((q.kind == 4) || (q.kind == 5)), .bool ((q.kind == 4) || (q.kind == 5)), bif !((q.kind == 4) || (q.kind == 5)) then .pointer (some ⟨b3, 0, none⟩) else undef, bif !((q.kind == 4) || (q.kind == 5)) then .int .i64 q.kind else undef, bif !((q.kind == 4) || (q.kind == 5)) then .bool (q.kind == 10) else undef, .bool (((q.kind == 4) || (q.kind == 5)) || (q.kind == 10)), .bool false, .bool false, .bool false, .agg #[.int .i64 f.kind, .int .i64 f.n], .bool (isFilterV f), .pointer (some ⟨b5, 0, none⟩), .int .i64 f.kind, .bool (f.kind == 0), .bool (f.kind == 0), bif (f.kind == 0) then .pointer (some ⟨b5, 1, none⟩) else undef, bif (f.kind == 0) then .int .i64 f.n else undef, bif (f.kind == 0) then .bool (f.n == 0) else undef, .bool ((f.kind == 0) && (f.n == 0)), .bool ((f.kind == 0) && (f.n == 0)), bif !((f.kind == 0) && (f.n == 0)) then .pointer (some ⟨b5, 0, none⟩) else undef, bif !((f.kind == 0) && (f.n == 0)) then .int .i64 f.kind else undef, bif !((f.kind == 0) && (f.n == 0)) then .bool (decide (0 < f.kind)) else undef, bif !((f.kind == 0) && (f.n == 0)) then .bool (decide (0 < f.kind)) else undef, bif (!((f.kind == 0) && (f.n == 0)) && (decide (0 < f.kind))) then .pointer (some ⟨b5, 0, none⟩) else undef, bif (!((f.kind == 0) && (f.n == 0)) && (decide (0 < f.kind))) then .int .i64 f.kind else undef, bif (!((f.kind == 0) && (f.n == 0)) && (decide (0 < f.kind))) then .bool (decide (f.kind < 4)) else undef, bif !((f.kind == 0) && (f.n == 0)) then .bool ((decide (0 < f.kind)) && (decide (f.kind < 4))) else undef, bif !((f.kind == 0) && (f.n == 0)) then .bool ((decide (0 < f.kind)) && (decide (f.kind < 4))) else undef, bif (!((f.kind == 0) && (f.n == 0)) && ((decide (0 < f.kind)) && (decide (f.kind < 4)))) then .pointer (some ⟨b5, 1, none⟩) else undef, bif (!((f.kind == 0) && (f.n == 0)) && ((decide (0 < f.kind)) && (decide (f.kind < 4)))) then .int .i64 f.n else undef, bif (!((f.kind == 0) && (f.n == 0)) && ((decide (0 < f.kind)) && (decide (f.kind < 4)))) then .bool (decide (0 < f.n)) else undef, bif !((f.kind == 0) && (f.n == 0)) then .bool (((decide (0 < f.kind)) && (decide (f.kind < 4))) && (decide (0 < f.n))) else undef, bif !((f.kind == 0) && (f.n == 0)) then .bool (((decide (0 < f.kind)) && (decide (f.kind < 4))) && (decide (0 < f.n))) else undef, bif (!((f.kind == 0) && (f.n == 0)) && (((decide (0 < f.kind)) && (decide (f.kind < 4))) && (decide (0 < f.n)))) then .pointer (some ⟨b5, 1, none⟩) else undef, bif (!((f.kind == 0) && (f.n == 0)) && (((decide (0 < f.kind)) && (decide (f.kind < 4))) && (decide (0 < f.n)))) then .int .i64 f.n else undef, bif (!((f.kind == 0) && (f.n == 0)) && (((decide (0 < f.kind)) && (decide (f.kind < 4))) && (decide (0 < f.n)))) then .bool (decide (f.n ≤ 1073741824)) else undef, bif !((f.kind == 0) && (f.n == 0)) then .bool ((((decide (0 < f.kind)) && (decide (f.kind < 4))) && (decide (0 < f.n))) && (decide (f.n ≤ 1073741824))) else undef, .bool (((f.kind == 0) && (f.n == 0)) || ((((decide (0 < f.kind)) && (decide (f.kind < 4))) && (decide (0 < f.n))) && (decide (f.n ≤ 1073741824)))), .bool false, .bool false] jx) (fun (LL : Nat → Bool) (xx : Unit) ww => Hp [] wa ww [rB b5 27 [.int .i64 f.kind, .int .i64 f.n], rB b3 29 [.int .i64 q.kind, .int .i64 q.seq, .int .i64 q.who, .int .i64 q.role, .int .u32 q.token, .int .u64 q.key, .int .i64 q.call.id, .int .i64 q.call.kind, .int .i64 q.call.src, .int .i64 q.call.dst, .int .i64 q.call.car, .int .i64 q.call.state, .int .i64 q.call.owner, .int .i64 q.call.born, .int .i64 q.id, .int .i64 q.car, .int .i64 q.mode, .int .i64 q.filter.kind, .int .i64 q.filter.n]]) () H.out.drew ?_ (steps_al ?_) ?_ ?_
  · exact fun _ _ _ _ _ h => h
  · refine al_cons ?_ (al_cons ?_ (al_cons ?_ (al_cons ?_ (al_cons ?_ (al_cons ?_ (al_cons ?_ (al_cons ?_ (al_cons ?_ (al_cons ?_ (al_cons ?_ (al_cons ?_ (al_cons ?_ (al_cons ?_ (al_cons ?_ (al_cons ?_ (al_cons ?_ (al_cons ?_ (al_cons ?_ (al_cons ?_ (al_cons ?_ (al_cons ?_ (al_cons ?_ (al_cons ?_ (al_cons ?_ (al_cons ?_ (al_cons ?_ (al_cons ?_ (al_cons ?_ (al_cons ?_ (al_cons ?_ (al_cons ?_ (al_cons ?_ (al_cons ?_ (al_cons ?_ (al_cons ?_ (al_cons ?_ (al_cons ?_ (al_cons ?_ (al_cons ?_ (al_cons ?_ (al_cons ?_ (al_cons ?_ (al_cons ?_ (al_cons ?_ (al_cons ?_ (al_cons ?_ (al_cons ?_ (al_cons ?_ (al_cons ?_ (al_cons ?_ (al_cons ?_ (al_cons ?_ (al_cons ?_ (al_cons ?_ (al_nil)))))))))))))))))))))))))))))))))))))))))))))))))))))))
    · intro LL xx ac wc sg hst hwant QQ hgo
      exact op_val hwant hgo hst _ (exec_move rfl ((sg.free 1 (by kernel_rfl)).trans so1)) rfl
    · intro LL xx ac wc sg hst hwant QQ hgo
      have se40 : ac.eval (.tmp 40) = _ := (sg.slot 0 (sg.anc 0 rfl))
      have sg40 := gt_of se40
      (try simp only [nth] at se40 sg40)
      refine op_call hwant hgo 17 #[.string s] (by simp only [execOp]; go_simp) (seqC s wc) ?_
      rintro er wd ⟨rfl, hof⟩
      exact ⟨_, (), rfl, fun _ _ => rfl, rfl, Hp.quiet hst hof⟩
    · intro LL xx ac wc sg hst hwant QQ hgo
      exact op_val hwant hgo hst _ (exec_move rfl ((sg.free 7 (by kernel_rfl)).trans so7)) rfl
    · intro LL xx ac wc sg hst hwant QQ hgo
      have se41 : ac.eval (.tmp 41) = _ := (sg.slot 1 (sg.anc 1 rfl))
      have sg41 := gt_of se41
      have se42 : ac.eval (.tmp 42) = _ := (sg.slot 2 (sg.anc 2 rfl))
      have sg42 := gt_of se42
      (try simp only [nth] at se41 sg41 se42 sg42)
      exact op_val hwant hgo hst _ (by simp only [execOp, nth]; go_simp <;> omega) rfl
    · intro LL xx ac wc sg hst hwant QQ hgo
      exact op_val hwant hgo hst _ (exec_move rfl (sg.slot 3 (sg.anc 3 rfl))) rfl
    · intro LL xx ac wc sg hst hwant QQ hgo
      have H := Lib.hid hst
      refine hpA_load tymsg_Request H rfl ((sg.free 3 (by kernel_rfl)).trans so3) hwant (by (repeat (first | exact List.Mem.head _ | apply List.Mem.tail))) (by rfl) rfl ?_
      exact hgo _ () _ (fun _ _ => rfl) rfl hst
    · intro LL xx ac wc sg hst hwant QQ hgo
      have se45 : ac.eval (.tmp 45) = _ := (sg.slot 5 (sg.anc 5 rfl))
      have sg45 := gt_of se45
      (try simp only [nth] at se45 sg45)
      refine op_call hwant hgo 24 #[.agg #[.int .i64 q.kind, .int .i64 q.seq, .int .i64 q.who, .int .i64 q.role, .int .u32 q.token, .int .u64 q.key, .int .i64 q.call.id, .int .i64 q.call.kind, .int .i64 q.call.src, .int .i64 q.call.dst, .int .i64 q.call.car, .int .i64 q.call.state, .int .i64 q.call.owner, .int .i64 q.call.born, .int .i64 q.id, .int .i64 q.car, .int .i64 q.mode, .int .i64 q.filter.kind, .int .i64 q.filter.n]] (by simp only [execOp]; go_simp) (writes q wc) ?_
      rintro er wd ⟨rfl, hof⟩
      exact ⟨_, (), rfl, fun _ _ => rfl, rfl, Hp.quiet hst hof⟩
    · intro LL xx ac wc sg hst hwant QQ hgo
      have se3 : ac.eval (.tmp 3) = _ := ((sg.free 3 (by kernel_rfl)).trans so3)
      have sg3 := gt_of se3
      exact op_val hwant hgo hst _ (by simp only [execOp, nth]; go_simp <;> omega) rfl
    · intro LL xx ac wc sg hst hwant QQ hgo
      have H := Lib.hid hst
      refine hpA_load1 tyint H rfl (sg.slot 7 (sg.anc 7 rfl)) hwant (by (repeat (first | exact List.Mem.head _ | apply List.Mem.tail))) (by rfl) ?_
      exact hgo _ () _ (fun _ _ => rfl) rfl hst
    · intro LL xx ac wc sg hst hwant QQ hgo
      have se48 : ac.eval (.tmp 48) = _ := (sg.slot 8 (sg.anc 8 rfl))
      have sg48 := gt_of se48
      (try simp only [nth] at se48 sg48)
      exact op_val hwant hgo hst _ (by simp only [execOp, nth]; go_simp <;> omega) rfl
    · intro LL xx ac wc sg hst hwant QQ hgo
      exact op_val hwant hgo hst _ (exec_move rfl (sg.slot 9 (sg.anc 9 rfl))) rfl
    · intro LL xx ac wc sg hst hwant QQ hgo
      have hG : (!(q.kind == 4)) = true := (want_f rfl rfl (sg.slot 10 (sg.anc 10 rfl))).symm.trans hwant
      have se3 : ac.eval (.tmp 3) = _ := ((sg.free 3 (by kernel_rfl)).trans so3)
      have sg3 := gt_of se3
      exact op_val hwant hgo hst _ (by simp only [execOp, nth]; go_simp <;> omega) (cI hG)
    · intro LL xx ac wc sg hst hwant QQ hgo
      have hG : (!(q.kind == 4)) = true := (want_f rfl rfl (sg.slot 10 (sg.anc 10 rfl))).symm.trans hwant
      have H := Lib.hid hst
      refine hpA_load1 tyint H rfl (cT (sg.slot 11 (sg.anc 11 rfl)) hG) hwant (by (repeat (first | exact List.Mem.head _ | apply List.Mem.tail))) (by rfl) ?_
      exact hgo _ () _ (fun _ _ => rfl) (cI hG) hst
    · intro LL xx ac wc sg hst hwant QQ hgo
      have hG : (!(q.kind == 4)) = true := (want_f rfl rfl (sg.slot 10 (sg.anc 10 rfl))).symm.trans hwant
      have se52 : ac.eval (.tmp 52) = _ := (cT (sg.slot 12 (sg.anc 12 rfl)) hG)
      have sg52 := gt_of se52
      (try simp only [nth] at se52 sg52)
      exact op_val hwant hgo hst _ (by simp only [execOp, nth]; go_simp <;> omega) (cI hG)
    · intro LL xx ac wc sg hst hwant QQ hgo
      exact op_val hwant hgo hst (.bool ((q.kind == 4) || (q.kind == 5))) (exec_or (Y := q.kind == 5) rfl (sg.slot 10 (sg.anc 10 rfl)) (fun qq => cT (sg.slot 13 (sg.anc 13 rfl)) (bk qq))) rfl
    · intro LL xx ac wc sg hst hwant QQ hgo
      exact op_val hwant hgo hst _ (exec_move rfl (sg.slot 14 (sg.anc 14 rfl))) rfl
    · intro LL xx ac wc sg hst hwant QQ hgo
      have hG : (!((q.kind == 4) || (q.kind == 5))) = true := (want_f rfl rfl (sg.slot 15 (sg.anc 15 rfl))).symm.trans hwant
      have se3 : ac.eval (.tmp 3) = _ := ((sg.free 3 (by kernel_rfl)).trans so3)
      have sg3 := gt_of se3
      exact op_val hwant hgo hst _ (by simp only [execOp, nth]; go_simp <;> omega) (cI hG)
    · intro LL xx ac wc sg hst hwant QQ hgo
      have hG : (!((q.kind == 4) || (q.kind == 5))) = true := (want_f rfl rfl (sg.slot 15 (sg.anc 15 rfl))).symm.trans hwant
      have H := Lib.hid hst
      refine hpA_load1 tyint H rfl (cT (sg.slot 16 (sg.anc 16 rfl)) hG) hwant (by (repeat (first | exact List.Mem.head _ | apply List.Mem.tail))) (by rfl) ?_
      exact hgo _ () _ (fun _ _ => rfl) (cI hG) hst
    · intro LL xx ac wc sg hst hwant QQ hgo
      have hG : (!((q.kind == 4) || (q.kind == 5))) = true := (want_f rfl rfl (sg.slot 15 (sg.anc 15 rfl))).symm.trans hwant
      have se57 : ac.eval (.tmp 57) = _ := (cT (sg.slot 17 (sg.anc 17 rfl)) hG)
      have sg57 := gt_of se57
      (try simp only [nth] at se57 sg57)
      exact op_val hwant hgo hst _ (by simp only [execOp, nth]; go_simp <;> omega) (cI hG)
    · intro LL xx ac wc sg hst hwant QQ hgo
      exact op_val hwant hgo hst (.bool (((q.kind == 4) || (q.kind == 5)) || (q.kind == 10))) (exec_or (Y := q.kind == 10) rfl (sg.slot 15 (sg.anc 15 rfl)) (fun qq => cT (sg.slot 18 (sg.anc 18 rfl)) (bk qq))) rfl
    · intro LL xx ac wc sg hst hwant QQ hgo
      exact op_val hwant hgo hst (.bool false) (exec_bne (c := true) rfl (sg.slot 6 (sg.anc 6 rfl)) (sg.slot 19 (sg.anc 19 rfl)) Try.underlying4 hwr) rfl
    · intro LL xx ac wc sg hst hwant QQ hgo
      exact op_val hwant hgo hst (.bool false) (exec_pick (B := false) (U := undef) (V := .bool false) rfl (sg.slot 4 (sg.anc 4 rfl)) (fun h => by cases h) (fun _ => (sg.slot 20 (sg.anc 20 rfl)))) rfl
    · intro LL xx ac wc sg hst hwant QQ hgo
      exact op_val hwant hgo hst _ (exec_move rfl (sg.slot 21 (sg.anc 21 rfl))) rfl
    · intro LL xx ac wc sg hst hwant QQ hgo
      have H := Lib.hid hst
      refine hpA_load tymsg_Filter H rfl ((sg.free 5 (by kernel_rfl)).trans so5) hwant (by (repeat (first | exact List.Mem.head _ | apply List.Mem.tail))) (by rfl) rfl ?_
      exact hgo _ () _ (fun _ _ => rfl) rfl hst
    · intro LL xx ac wc sg hst hwant QQ hgo
      have se63 : ac.eval (.tmp 63) = _ := (sg.slot 23 (sg.anc 23 rfl))
      have sg63 := gt_of se63
      (try simp only [nth] at se63 sg63)
      refine op_call hwant hgo 25 #[.agg #[.int .i64 f.kind, .int .i64 f.n]] (by simp only [execOp]; go_simp) (filterIs f wc) ?_
      rintro er wd ⟨rfl, hof⟩
      exact ⟨_, (), rfl, fun _ _ => rfl, rfl, Hp.quiet hst hof⟩
    · intro LL xx ac wc sg hst hwant QQ hgo
      have se5 : ac.eval (.tmp 5) = _ := ((sg.free 5 (by kernel_rfl)).trans so5)
      have sg5 := gt_of se5
      exact op_val hwant hgo hst _ (by simp only [execOp, nth]; go_simp <;> omega) rfl
    · intro LL xx ac wc sg hst hwant QQ hgo
      have H := Lib.hid hst
      refine hpA_load1 tyint H rfl (sg.slot 25 (sg.anc 25 rfl)) hwant (by (repeat (first | exact List.Mem.head _ | apply List.Mem.tail))) (by rfl) ?_
      exact hgo _ () _ (fun _ _ => rfl) rfl hst
    · intro LL xx ac wc sg hst hwant QQ hgo
      have se66 : ac.eval (.tmp 66) = _ := (sg.slot 26 (sg.anc 26 rfl))
      have sg66 := gt_of se66
      (try simp only [nth] at se66 sg66)
      exact op_val hwant hgo hst _ (by simp only [execOp, nth]; go_simp <;> omega) rfl
    · intro LL xx ac wc sg hst hwant QQ hgo
      exact op_val hwant hgo hst _ (exec_move rfl (sg.slot 27 (sg.anc 27 rfl))) rfl
    · intro LL xx ac wc sg hst hwant QQ hgo
      have hG : (f.kind == 0) = true := (want_t rfl rfl (sg.slot 28 (sg.anc 28 rfl))).symm.trans hwant
      have se5 : ac.eval (.tmp 5) = _ := ((sg.free 5 (by kernel_rfl)).trans so5)
      have sg5 := gt_of se5
      exact op_val hwant hgo hst _ (by simp only [execOp, nth]; go_simp <;> omega) (cI hG)
    · intro LL xx ac wc sg hst hwant QQ hgo
      have hG : (f.kind == 0) = true := (want_t rfl rfl (sg.slot 28 (sg.anc 28 rfl))).symm.trans hwant
      have H := Lib.hid hst
      refine hpA_load1 tyint H rfl (cT (sg.slot 29 (sg.anc 29 rfl)) hG) hwant (by (repeat (first | exact List.Mem.head _ | apply List.Mem.tail))) (by rfl) ?_
      exact hgo _ () _ (fun _ _ => rfl) (cI hG) hst
    · intro LL xx ac wc sg hst hwant QQ hgo
      have hG : (f.kind == 0) = true := (want_t rfl rfl (sg.slot 28 (sg.anc 28 rfl))).symm.trans hwant
      have se70 : ac.eval (.tmp 70) = _ := (cT (sg.slot 30 (sg.anc 30 rfl)) hG)
      have sg70 := gt_of se70
      (try simp only [nth] at se70 sg70)
      exact op_val hwant hgo hst _ (by simp only [execOp, nth]; go_simp <;> omega) (cI hG)
    · intro LL xx ac wc sg hst hwant QQ hgo
      exact op_val hwant hgo hst (.bool ((f.kind == 0) && (f.n == 0))) (exec_and (Y := f.n == 0) rfl (sg.slot 28 (sg.anc 28 rfl)) (fun qq => cT (sg.slot 31 (sg.anc 31 rfl)) qq)) rfl
    · intro LL xx ac wc sg hst hwant QQ hgo
      exact op_val hwant hgo hst _ (exec_move rfl (sg.slot 32 (sg.anc 32 rfl))) rfl
    · intro LL xx ac wc sg hst hwant QQ hgo
      have hG : (!((f.kind == 0) && (f.n == 0))) = true := (want_f rfl rfl (sg.slot 33 (sg.anc 33 rfl))).symm.trans hwant
      have se5 : ac.eval (.tmp 5) = _ := ((sg.free 5 (by kernel_rfl)).trans so5)
      have sg5 := gt_of se5
      exact op_val hwant hgo hst _ (by simp only [execOp, nth]; go_simp <;> omega) (cI hG)
    · intro LL xx ac wc sg hst hwant QQ hgo
      have hG : (!((f.kind == 0) && (f.n == 0))) = true := (want_f rfl rfl (sg.slot 33 (sg.anc 33 rfl))).symm.trans hwant
      have H := Lib.hid hst
      refine hpA_load1 tyint H rfl (cT (sg.slot 34 (sg.anc 34 rfl)) hG) hwant (by (repeat (first | exact List.Mem.head _ | apply List.Mem.tail))) (by rfl) ?_
      exact hgo _ () _ (fun _ _ => rfl) (cI hG) hst
    · intro LL xx ac wc sg hst hwant QQ hgo
      have hG : (!((f.kind == 0) && (f.n == 0))) = true := (want_f rfl rfl (sg.slot 33 (sg.anc 33 rfl))).symm.trans hwant
      have se75 : ac.eval (.tmp 75) = _ := (cT (sg.slot 35 (sg.anc 35 rfl)) hG)
      have sg75 := gt_of se75
      (try simp only [nth] at se75 sg75)
      exact op_val hwant hgo hst _ (by simp only [execOp, nth]; go_simp <;> omega) (cI hG)
    · intro LL xx ac wc sg hst hwant QQ hgo
      have hG : (!((f.kind == 0) && (f.n == 0))) = true := (want_f rfl rfl (sg.slot 33 (sg.anc 33 rfl))).symm.trans hwant
      exact op_val hwant hgo hst _ (exec_move rfl (cT (sg.slot 36 (sg.anc 36 rfl)) hG)) (cI hG)
    · intro LL xx ac wc sg hst hwant QQ hgo
      have hG : (!((f.kind == 0) && (f.n == 0)) && (decide (0 < f.kind))) = true := (want_gt rfl rfl (sg.slot 37 (sg.anc 37 rfl))).symm.trans hwant
      have se5 : ac.eval (.tmp 5) = _ := ((sg.free 5 (by kernel_rfl)).trans so5)
      have sg5 := gt_of se5
      exact op_val hwant hgo hst _ (by simp only [execOp, nth]; go_simp <;> omega) (cI hG)
    · intro LL xx ac wc sg hst hwant QQ hgo
      have hG : (!((f.kind == 0) && (f.n == 0)) && (decide (0 < f.kind))) = true := (want_gt rfl rfl (sg.slot 37 (sg.anc 37 rfl))).symm.trans hwant
      have H := Lib.hid hst
      refine hpA_load1 tyint H rfl (cT (sg.slot 38 (sg.anc 38 rfl)) hG) hwant (by (repeat (first | exact List.Mem.head _ | apply List.Mem.tail))) (by rfl) ?_
      exact hgo _ () _ (fun _ _ => rfl) (cI hG) hst
    · intro LL xx ac wc sg hst hwant QQ hgo
      have hG : (!((f.kind == 0) && (f.n == 0)) && (decide (0 < f.kind))) = true := (want_gt rfl rfl (sg.slot 37 (sg.anc 37 rfl))).symm.trans hwant
      have se79 : ac.eval (.tmp 79) = _ := (cT (sg.slot 39 (sg.anc 39 rfl)) hG)
      have sg79 := gt_of se79
      (try simp only [nth] at se79 sg79)
      exact op_val hwant hgo hst _ (by simp only [execOp, nth]; go_simp <;> omega) (cI hG)
    · intro LL xx ac wc sg hst hwant QQ hgo
      have hG : (!((f.kind == 0) && (f.n == 0))) = true := (want_f rfl rfl (sg.slot 33 (sg.anc 33 rfl))).symm.trans hwant
      exact op_val hwant hgo hst (.bool ((decide (0 < f.kind)) && (decide (f.kind < 4)))) (exec_and (Y := decide (f.kind < 4)) rfl (cT (sg.slot 37 (sg.anc 37 rfl)) hG) (fun qq => cT (sg.slot 40 (sg.anc 40 rfl)) (bj hG qq))) (cI hG)
    · intro LL xx ac wc sg hst hwant QQ hgo
      have hG : (!((f.kind == 0) && (f.n == 0))) = true := (want_f rfl rfl (sg.slot 33 (sg.anc 33 rfl))).symm.trans hwant
      exact op_val hwant hgo hst _ (exec_move rfl (cT (sg.slot 41 (sg.anc 41 rfl)) hG)) (cI hG)
    · intro LL xx ac wc sg hst hwant QQ hgo
      have hG : (!((f.kind == 0) && (f.n == 0)) && ((decide (0 < f.kind)) && (decide (f.kind < 4)))) = true := (want_gt rfl rfl (sg.slot 42 (sg.anc 42 rfl))).symm.trans hwant
      have se5 : ac.eval (.tmp 5) = _ := ((sg.free 5 (by kernel_rfl)).trans so5)
      have sg5 := gt_of se5
      exact op_val hwant hgo hst _ (by simp only [execOp, nth]; go_simp <;> omega) (cI hG)
    · intro LL xx ac wc sg hst hwant QQ hgo
      have hG : (!((f.kind == 0) && (f.n == 0)) && ((decide (0 < f.kind)) && (decide (f.kind < 4)))) = true := (want_gt rfl rfl (sg.slot 42 (sg.anc 42 rfl))).symm.trans hwant
      have H := Lib.hid hst
      refine hpA_load1 tyint H rfl (cT (sg.slot 43 (sg.anc 43 rfl)) hG) hwant (by (repeat (first | exact List.Mem.head _ | apply List.Mem.tail))) (by rfl) ?_
      exact hgo _ () _ (fun _ _ => rfl) (cI hG) hst
    · intro LL xx ac wc sg hst hwant QQ hgo
      have hG : (!((f.kind == 0) && (f.n == 0)) && ((decide (0 < f.kind)) && (decide (f.kind < 4)))) = true := (want_gt rfl rfl (sg.slot 42 (sg.anc 42 rfl))).symm.trans hwant
      have se84 : ac.eval (.tmp 84) = _ := (cT (sg.slot 44 (sg.anc 44 rfl)) hG)
      have sg84 := gt_of se84
      (try simp only [nth] at se84 sg84)
      exact op_val hwant hgo hst _ (by simp only [execOp, nth]; go_simp <;> omega) (cI hG)
    · intro LL xx ac wc sg hst hwant QQ hgo
      have hG : (!((f.kind == 0) && (f.n == 0))) = true := (want_f rfl rfl (sg.slot 33 (sg.anc 33 rfl))).symm.trans hwant
      exact op_val hwant hgo hst (.bool (((decide (0 < f.kind)) && (decide (f.kind < 4))) && (decide (0 < f.n)))) (exec_and (Y := decide (0 < f.n)) rfl (cT (sg.slot 42 (sg.anc 42 rfl)) hG) (fun qq => cT (sg.slot 45 (sg.anc 45 rfl)) (bj hG qq))) (cI hG)
    · intro LL xx ac wc sg hst hwant QQ hgo
      have hG : (!((f.kind == 0) && (f.n == 0))) = true := (want_f rfl rfl (sg.slot 33 (sg.anc 33 rfl))).symm.trans hwant
      exact op_val hwant hgo hst _ (exec_move rfl (cT (sg.slot 46 (sg.anc 46 rfl)) hG)) (cI hG)
    · intro LL xx ac wc sg hst hwant QQ hgo
      have hG : (!((f.kind == 0) && (f.n == 0)) && (((decide (0 < f.kind)) && (decide (f.kind < 4))) && (decide (0 < f.n)))) = true := (want_gt rfl rfl (sg.slot 47 (sg.anc 47 rfl))).symm.trans hwant
      have se5 : ac.eval (.tmp 5) = _ := ((sg.free 5 (by kernel_rfl)).trans so5)
      have sg5 := gt_of se5
      exact op_val hwant hgo hst _ (by simp only [execOp, nth]; go_simp <;> omega) (cI hG)
    · intro LL xx ac wc sg hst hwant QQ hgo
      have hG : (!((f.kind == 0) && (f.n == 0)) && (((decide (0 < f.kind)) && (decide (f.kind < 4))) && (decide (0 < f.n)))) = true := (want_gt rfl rfl (sg.slot 47 (sg.anc 47 rfl))).symm.trans hwant
      have H := Lib.hid hst
      refine hpA_load1 tyint H rfl (cT (sg.slot 48 (sg.anc 48 rfl)) hG) hwant (by (repeat (first | exact List.Mem.head _ | apply List.Mem.tail))) (by rfl) ?_
      exact hgo _ () _ (fun _ _ => rfl) (cI hG) hst
    · intro LL xx ac wc sg hst hwant QQ hgo
      have hG : (!((f.kind == 0) && (f.n == 0)) && (((decide (0 < f.kind)) && (decide (f.kind < 4))) && (decide (0 < f.n)))) = true := (want_gt rfl rfl (sg.slot 47 (sg.anc 47 rfl))).symm.trans hwant
      have se89 : ac.eval (.tmp 89) = _ := (cT (sg.slot 49 (sg.anc 49 rfl)) hG)
      have sg89 := gt_of se89
      (try simp only [nth] at se89 sg89)
      exact op_val hwant hgo hst _ (by simp only [execOp, nth]; go_simp <;> omega) (cI hG)
    · intro LL xx ac wc sg hst hwant QQ hgo
      have hG : (!((f.kind == 0) && (f.n == 0))) = true := (want_f rfl rfl (sg.slot 33 (sg.anc 33 rfl))).symm.trans hwant
      exact op_val hwant hgo hst (.bool ((((decide (0 < f.kind)) && (decide (f.kind < 4))) && (decide (0 < f.n))) && (decide (f.n ≤ 1073741824)))) (exec_and (Y := decide (f.n ≤ 1073741824)) rfl (cT (sg.slot 47 (sg.anc 47 rfl)) hG) (fun qq => cT (sg.slot 50 (sg.anc 50 rfl)) (bj hG qq))) (cI hG)
    · intro LL xx ac wc sg hst hwant QQ hgo
      exact op_val hwant hgo hst (.bool (((f.kind == 0) && (f.n == 0)) || ((((decide (0 < f.kind)) && (decide (f.kind < 4))) && (decide (0 < f.n))) && (decide (f.n ≤ 1073741824))))) (exec_or (Y := (((decide (0 < f.kind)) && (decide (f.kind < 4))) && (decide (0 < f.n))) && (decide (f.n ≤ 1073741824))) rfl (sg.slot 33 (sg.anc 33 rfl)) (fun qq => cT (sg.slot 51 (sg.anc 51 rfl)) (bk qq))) rfl
    · intro LL xx ac wc sg hst hwant QQ hgo
      exact op_val hwant hgo hst (.bool false) (exec_bne (c := true) rfl (sg.slot 24 (sg.anc 24 rfl)) (sg.slot 52 (sg.anc 52 rfl)) Try.underlying4 hfl) rfl
    · intro LL xx ac wc sg hst hwant QQ hgo
      exact op_val hwant hgo hst (.bool false) (exec_pick (B := false) (U := undef) (V := .bool false) rfl (sg.slot 22 (sg.anc 22 rfl)) (fun h => by cases h) (fun _ => (sg.slot 53 (sg.anc 53 rfl)))) rfl
  · refine skips [5, 6, 7, 8, 9, 10, 11, 12, 13, 14, 15, 16, 17, 18, 19, 20, 23, 24, 25, 26, 27, 28, 29, 30, 31, 32, 33, 34, 35, 36, 37, 38, 39, 40, 41, 42, 43, 44, 45, 46, 47, 48, 49, 50, 51, 52, 53] (by kernel_rfl) ?_
    refine List.forall_mem_cons.2 ⟨?_, List.forall_mem_cons.2 ⟨?_, List.forall_mem_cons.2 ⟨?_, List.forall_mem_cons.2 ⟨?_, List.forall_mem_cons.2 ⟨?_, List.forall_mem_cons.2 ⟨?_, List.forall_mem_cons.2 ⟨?_, List.forall_mem_cons.2 ⟨?_, List.forall_mem_cons.2 ⟨?_, List.forall_mem_cons.2 ⟨?_, List.forall_mem_cons.2 ⟨?_, List.forall_mem_cons.2 ⟨?_, List.forall_mem_cons.2 ⟨?_, List.forall_mem_cons.2 ⟨?_, List.forall_mem_cons.2 ⟨?_, List.forall_mem_cons.2 ⟨?_, List.forall_mem_cons.2 ⟨?_, List.forall_mem_cons.2 ⟨?_, List.forall_mem_cons.2 ⟨?_, List.forall_mem_cons.2 ⟨?_, List.forall_mem_cons.2 ⟨?_, List.forall_mem_cons.2 ⟨?_, List.forall_mem_cons.2 ⟨?_, List.forall_mem_cons.2 ⟨?_, List.forall_mem_cons.2 ⟨?_, List.forall_mem_cons.2 ⟨?_, List.forall_mem_cons.2 ⟨?_, List.forall_mem_cons.2 ⟨?_, List.forall_mem_cons.2 ⟨?_, List.forall_mem_cons.2 ⟨?_, List.forall_mem_cons.2 ⟨?_, List.forall_mem_cons.2 ⟨?_, List.forall_mem_cons.2 ⟨?_, List.forall_mem_cons.2 ⟨?_, List.forall_mem_cons.2 ⟨?_, List.forall_mem_cons.2 ⟨?_, List.forall_mem_cons.2 ⟨?_, List.forall_mem_cons.2 ⟨?_, List.forall_mem_cons.2 ⟨?_, List.forall_mem_cons.2 ⟨?_, List.forall_mem_cons.2 ⟨?_, List.forall_mem_cons.2 ⟨?_, List.forall_mem_cons.2 ⟨?_, List.forall_mem_cons.2 ⟨?_, List.forall_mem_cons.2 ⟨?_, List.forall_mem_cons.2 ⟨?_, List.forall_mem_cons.2 ⟨?_, fun _ h => by cases h⟩⟩⟩⟩⟩⟩⟩⟩⟩⟩⟩⟩⟩⟩⟩⟩⟩⟩⟩⟩⟩⟩⟩⟩⟩⟩⟩⟩⟩⟩⟩⟩⟩⟩⟩⟩⟩⟩⟩⟩⟩⟩⟩⟩⟩⟩⟩
    · intro oo hop LL xx ac sg hwant
      cases Option.some.inj hop
      exact absurd ((want_f rfl rfl (sg.slot 4 (sg.anc 4 rfl))).symm.trans hwant) (by decide)
    · intro oo hop LL xx ac sg hwant
      cases Option.some.inj hop
      exact absurd ((want_f rfl rfl (sg.slot 4 (sg.anc 4 rfl))).symm.trans hwant) (by decide)
    · intro oo hop LL xx ac sg hwant
      cases Option.some.inj hop
      exact absurd ((want_f rfl rfl (sg.slot 4 (sg.anc 4 rfl))).symm.trans hwant) (by decide)
    · intro oo hop LL xx ac sg hwant
      cases Option.some.inj hop
      exact absurd ((want_f rfl rfl (sg.slot 4 (sg.anc 4 rfl))).symm.trans hwant) (by decide)
    · intro oo hop LL xx ac sg hwant
      cases Option.some.inj hop
      exact absurd ((want_f rfl rfl (sg.slot 4 (sg.anc 4 rfl))).symm.trans hwant) (by decide)
    · intro oo hop LL xx ac sg hwant
      cases Option.some.inj hop
      exact absurd ((want_f rfl rfl (sg.slot 4 (sg.anc 4 rfl))).symm.trans hwant) (by decide)
    · intro oo hop LL xx ac sg hwant
      cases Option.some.inj hop
      have hG : (!(q.kind == 4)) = false := (want_f rfl rfl (sg.slot 10 (sg.anc 10 rfl))).symm.trans hwant
      exact ⟨cF hG, fun _ h => h⟩
    · intro oo hop LL xx ac sg hwant
      cases Option.some.inj hop
      have hG : (!(q.kind == 4)) = false := (want_f rfl rfl (sg.slot 10 (sg.anc 10 rfl))).symm.trans hwant
      exact ⟨cF hG, fun _ h => h⟩
    · intro oo hop LL xx ac sg hwant
      cases Option.some.inj hop
      have hG : (!(q.kind == 4)) = false := (want_f rfl rfl (sg.slot 10 (sg.anc 10 rfl))).symm.trans hwant
      exact ⟨cF hG, fun _ h => h⟩
    · intro oo hop LL xx ac sg hwant
      cases Option.some.inj hop
      exact absurd ((want_f rfl rfl (sg.slot 4 (sg.anc 4 rfl))).symm.trans hwant) (by decide)
    · intro oo hop LL xx ac sg hwant
      cases Option.some.inj hop
      exact absurd ((want_f rfl rfl (sg.slot 4 (sg.anc 4 rfl))).symm.trans hwant) (by decide)
    · intro oo hop LL xx ac sg hwant
      cases Option.some.inj hop
      have hG : (!((q.kind == 4) || (q.kind == 5))) = false := (want_f rfl rfl (sg.slot 15 (sg.anc 15 rfl))).symm.trans hwant
      exact ⟨cF hG, fun _ h => h⟩
    · intro oo hop LL xx ac sg hwant
      cases Option.some.inj hop
      have hG : (!((q.kind == 4) || (q.kind == 5))) = false := (want_f rfl rfl (sg.slot 15 (sg.anc 15 rfl))).symm.trans hwant
      exact ⟨cF hG, fun _ h => h⟩
    · intro oo hop LL xx ac sg hwant
      cases Option.some.inj hop
      have hG : (!((q.kind == 4) || (q.kind == 5))) = false := (want_f rfl rfl (sg.slot 15 (sg.anc 15 rfl))).symm.trans hwant
      exact ⟨cF hG, fun _ h => h⟩
    · intro oo hop LL xx ac sg hwant
      cases Option.some.inj hop
      exact absurd ((want_f rfl rfl (sg.slot 4 (sg.anc 4 rfl))).symm.trans hwant) (by decide)
    · intro oo hop LL xx ac sg hwant
      cases Option.some.inj hop
      exact absurd ((want_f rfl rfl (sg.slot 4 (sg.anc 4 rfl))).symm.trans hwant) (by decide)
    · intro oo hop LL xx ac sg hwant
      cases Option.some.inj hop
      exact absurd ((want_f rfl rfl (sg.slot 22 (sg.anc 22 rfl))).symm.trans hwant) (by decide)
    · intro oo hop LL xx ac sg hwant
      cases Option.some.inj hop
      exact absurd ((want_f rfl rfl (sg.slot 22 (sg.anc 22 rfl))).symm.trans hwant) (by decide)
    · intro oo hop LL xx ac sg hwant
      cases Option.some.inj hop
      exact absurd ((want_f rfl rfl (sg.slot 22 (sg.anc 22 rfl))).symm.trans hwant) (by decide)
    · intro oo hop LL xx ac sg hwant
      cases Option.some.inj hop
      exact absurd ((want_f rfl rfl (sg.slot 22 (sg.anc 22 rfl))).symm.trans hwant) (by decide)
    · intro oo hop LL xx ac sg hwant
      cases Option.some.inj hop
      exact absurd ((want_f rfl rfl (sg.slot 22 (sg.anc 22 rfl))).symm.trans hwant) (by decide)
    · intro oo hop LL xx ac sg hwant
      cases Option.some.inj hop
      exact absurd ((want_f rfl rfl (sg.slot 22 (sg.anc 22 rfl))).symm.trans hwant) (by decide)
    · intro oo hop LL xx ac sg hwant
      cases Option.some.inj hop
      have hG : (f.kind == 0) = false := (want_t rfl rfl (sg.slot 28 (sg.anc 28 rfl))).symm.trans hwant
      exact ⟨cF hG, fun _ h => h⟩
    · intro oo hop LL xx ac sg hwant
      cases Option.some.inj hop
      have hG : (f.kind == 0) = false := (want_t rfl rfl (sg.slot 28 (sg.anc 28 rfl))).symm.trans hwant
      exact ⟨cF hG, fun _ h => h⟩
    · intro oo hop LL xx ac sg hwant
      cases Option.some.inj hop
      have hG : (f.kind == 0) = false := (want_t rfl rfl (sg.slot 28 (sg.anc 28 rfl))).symm.trans hwant
      exact ⟨cF hG, fun _ h => h⟩
    · intro oo hop LL xx ac sg hwant
      cases Option.some.inj hop
      exact absurd ((want_f rfl rfl (sg.slot 22 (sg.anc 22 rfl))).symm.trans hwant) (by decide)
    · intro oo hop LL xx ac sg hwant
      cases Option.some.inj hop
      exact absurd ((want_f rfl rfl (sg.slot 22 (sg.anc 22 rfl))).symm.trans hwant) (by decide)
    · intro oo hop LL xx ac sg hwant
      cases Option.some.inj hop
      have hG : (!((f.kind == 0) && (f.n == 0))) = false := (want_f rfl rfl (sg.slot 33 (sg.anc 33 rfl))).symm.trans hwant
      exact ⟨cF hG, fun _ h => h⟩
    · intro oo hop LL xx ac sg hwant
      cases Option.some.inj hop
      have hG : (!((f.kind == 0) && (f.n == 0))) = false := (want_f rfl rfl (sg.slot 33 (sg.anc 33 rfl))).symm.trans hwant
      exact ⟨cF hG, fun _ h => h⟩
    · intro oo hop LL xx ac sg hwant
      cases Option.some.inj hop
      have hG : (!((f.kind == 0) && (f.n == 0))) = false := (want_f rfl rfl (sg.slot 33 (sg.anc 33 rfl))).symm.trans hwant
      exact ⟨cF hG, fun _ h => h⟩
    · intro oo hop LL xx ac sg hwant
      cases Option.some.inj hop
      have hG : (!((f.kind == 0) && (f.n == 0))) = false := (want_f rfl rfl (sg.slot 33 (sg.anc 33 rfl))).symm.trans hwant
      exact ⟨cF hG, fun _ h => h⟩
    · intro oo hop LL xx ac sg hwant
      cases Option.some.inj hop
      have hG : (!((f.kind == 0) && (f.n == 0)) && (decide (0 < f.kind))) = false := (want_gt rfl rfl (sg.slot 37 (sg.anc 37 rfl))).symm.trans hwant
      exact ⟨cF hG, fun _ h => h⟩
    · intro oo hop LL xx ac sg hwant
      cases Option.some.inj hop
      have hG : (!((f.kind == 0) && (f.n == 0)) && (decide (0 < f.kind))) = false := (want_gt rfl rfl (sg.slot 37 (sg.anc 37 rfl))).symm.trans hwant
      exact ⟨cF hG, fun _ h => h⟩
    · intro oo hop LL xx ac sg hwant
      cases Option.some.inj hop
      have hG : (!((f.kind == 0) && (f.n == 0)) && (decide (0 < f.kind))) = false := (want_gt rfl rfl (sg.slot 37 (sg.anc 37 rfl))).symm.trans hwant
      exact ⟨cF hG, fun _ h => h⟩
    · intro oo hop LL xx ac sg hwant
      cases Option.some.inj hop
      have hG : (!((f.kind == 0) && (f.n == 0))) = false := (want_f rfl rfl (sg.slot 33 (sg.anc 33 rfl))).symm.trans hwant
      exact ⟨cF hG, fun _ h => h⟩
    · intro oo hop LL xx ac sg hwant
      cases Option.some.inj hop
      have hG : (!((f.kind == 0) && (f.n == 0))) = false := (want_f rfl rfl (sg.slot 33 (sg.anc 33 rfl))).symm.trans hwant
      exact ⟨cF hG, fun _ h => h⟩
    · intro oo hop LL xx ac sg hwant
      cases Option.some.inj hop
      have hG : (!((f.kind == 0) && (f.n == 0)) && ((decide (0 < f.kind)) && (decide (f.kind < 4)))) = false := (want_gt rfl rfl (sg.slot 42 (sg.anc 42 rfl))).symm.trans hwant
      exact ⟨cF hG, fun _ h => h⟩
    · intro oo hop LL xx ac sg hwant
      cases Option.some.inj hop
      have hG : (!((f.kind == 0) && (f.n == 0)) && ((decide (0 < f.kind)) && (decide (f.kind < 4)))) = false := (want_gt rfl rfl (sg.slot 42 (sg.anc 42 rfl))).symm.trans hwant
      exact ⟨cF hG, fun _ h => h⟩
    · intro oo hop LL xx ac sg hwant
      cases Option.some.inj hop
      have hG : (!((f.kind == 0) && (f.n == 0)) && ((decide (0 < f.kind)) && (decide (f.kind < 4)))) = false := (want_gt rfl rfl (sg.slot 42 (sg.anc 42 rfl))).symm.trans hwant
      exact ⟨cF hG, fun _ h => h⟩
    · intro oo hop LL xx ac sg hwant
      cases Option.some.inj hop
      have hG : (!((f.kind == 0) && (f.n == 0))) = false := (want_f rfl rfl (sg.slot 33 (sg.anc 33 rfl))).symm.trans hwant
      exact ⟨cF hG, fun _ h => h⟩
    · intro oo hop LL xx ac sg hwant
      cases Option.some.inj hop
      have hG : (!((f.kind == 0) && (f.n == 0))) = false := (want_f rfl rfl (sg.slot 33 (sg.anc 33 rfl))).symm.trans hwant
      exact ⟨cF hG, fun _ h => h⟩
    · intro oo hop LL xx ac sg hwant
      cases Option.some.inj hop
      have hG : (!((f.kind == 0) && (f.n == 0)) && (((decide (0 < f.kind)) && (decide (f.kind < 4))) && (decide (0 < f.n)))) = false := (want_gt rfl rfl (sg.slot 47 (sg.anc 47 rfl))).symm.trans hwant
      exact ⟨cF hG, fun _ h => h⟩
    · intro oo hop LL xx ac sg hwant
      cases Option.some.inj hop
      have hG : (!((f.kind == 0) && (f.n == 0)) && (((decide (0 < f.kind)) && (decide (f.kind < 4))) && (decide (0 < f.n)))) = false := (want_gt rfl rfl (sg.slot 47 (sg.anc 47 rfl))).symm.trans hwant
      exact ⟨cF hG, fun _ h => h⟩
    · intro oo hop LL xx ac sg hwant
      cases Option.some.inj hop
      have hG : (!((f.kind == 0) && (f.n == 0)) && (((decide (0 < f.kind)) && (decide (f.kind < 4))) && (decide (0 < f.n)))) = false := (want_gt rfl rfl (sg.slot 47 (sg.anc 47 rfl))).symm.trans hwant
      exact ⟨cF hG, fun _ h => h⟩
    · intro oo hop LL xx ac sg hwant
      cases Option.some.inj hop
      have hG : (!((f.kind == 0) && (f.n == 0))) = false := (want_f rfl rfl (sg.slot 33 (sg.anc 33 rfl))).symm.trans hwant
      exact ⟨cF hG, fun _ h => h⟩
    · intro oo hop LL xx ac sg hwant
      cases Option.some.inj hop
      exact absurd ((want_f rfl rfl (sg.slot 22 (sg.anc 22 rfl))).symm.trans hwant) (by decide)
    · intro oo hop LL xx ac sg hwant
      cases Option.some.inj hop
      exact absurd ((want_f rfl rfl (sg.slot 22 (sg.anc 22 rfl))).symm.trans hwant) (by decide)
  · intro xx ac1 wz hfr hsl hst
    exact hfin ac1 wz (hfr.size.trans hz) hfr.defers (fr_keep hfr [40, 41, 42, 43, 44, 45, 46, 47, 48, 49, 50, 51, 52, 53, 54, 55, 56, 57, 58, 59, 60, 61, 62, 63, 64, 65, 66, 67, 68, 69, 70, 71, 72, 73, 74, 75, 76, 77, 78, 79, 80, 81, 82, 83, 84, 85, 86, 87, 88, 89, 90, 91, 92, 93, 94] (by kernel_rfl)) (hsl 54 (by decide)) (Lib.hid hst)
set_option maxHeartbeats 8000000 in
set_option maxRecDepth 20000 in
theorem parts_w_r10x2 (q : ReqV) (s : ByteArray) (f : FilterV) (hq : okReq q) (hib1 : 0 ≤ idxB s 1 ∧ idxB s 1 ≤ 255) (hib2 : 0 ≤ idxB s 2 ∧ idxB s 2 ≤ 255) (hib3 : 0 ≤ idxB s 3 ∧ idxB s 3 ≤ 255) (hib4 : 0 ≤ idxB s 4 ∧ idxB s 4 ≤ 255) (hwi1 : IntKind.i64.wrap (idxB s 1) = idxB s 1) (hwi2 : IntKind.i64.wrap (idxB s 2) = idxB s 2) (hwi3 : IntKind.i64.wrap (idxB s 3) = idxB s 3) (hwi4 : IntKind.i64.wrap (idxB s 4) = idxB s 4) (b3 : Nat) (b5 : Nat) (z1d : ¬ (256 < (s.size : Int))) (z2d : ¬ (5 ≤ (s.size : Int))) (hsq : ((seqV s) != 0) = false) (hwr : ((writesV q) == (((q.kind == 4) || (q.kind == 5)) || (q.kind == 10))) = true) (hfl : ((isFilterV f) == (((f.kind == 0) && (f.n == 0)) || ((((decide (0 < f.kind)) && (decide (f.kind < 4))) && (decide (0 < f.n))) && (decide (f.n ≤ 1073741824))))) = true) {wa wb : World} (H : Hid (Hp [] wa wb [rB b5 27 [.int .i64 f.kind, .int .i64 f.n], rB b3 29 [.int .i64 q.kind, .int .i64 q.seq, .int .i64 q.who, .int .i64 q.role, .int .u32 q.token, .int .u64 q.key, .int .i64 q.call.id, .int .i64 q.call.kind, .int .i64 q.call.src, .int .i64 q.call.dst, .int .i64 q.call.car, .int .i64 q.call.state, .int .i64 q.call.owner, .int .i64 q.call.born, .int .i64 q.id, .int .i64 q.car, .int .i64 q.mode, .int .i64 q.filter.kind, .int .i64 q.filter.n]])) (ac0 : Act) (hz : ac0.tmps.size = 122) (so1 : ac0.eval (.tmp 1) = .string s) (so3 : ac0.eval (.tmp 3) = .pointer (some ⟨b3, 0, none⟩)) (so5 : ac0.eval (.tmp 5) = .pointer (some ⟨b5, 0, none⟩)) (so7 : ac0.eval (.tmp 7) = .int .i64 0) {QR : Exit → Act → World → Prop} (hfin : ∀ (ac1 : Act) (wz : World), ac1.tmps.size = 122 → ac1.defers = ac0.defers → (∀ t, ([40, 41, 42, 43, 44, 45, 46, 47, 48, 49, 50, 51, 52, 53, 54, 55, 56, 57, 58, 59, 60, 61, 62, 63, 64, 65, 66, 67, 68, 69, 70, 71, 72, 73, 74, 75, 76, 77, 78, 79, 80, 81, 82, 83, 84, 85, 86, 87, 88, 89, 90, 91, 92, 93, 94] : List Nat).contains t = false → ac1.eval (.tmp t) = ac0.eval (.tmp t)) → ac1.eval (.tmp 94) = .bool false →  Hid (Hp [] wa wz [rB b5 27 [.int .i64 f.kind, .int .i64 f.n], rB b3 29 [.int .i64 q.kind, .int .i64 q.seq, .int .i64 q.who, .int .i64 q.role, .int .u32 q.token, .int .u64 q.key, .int .i64 q.call.id, .int .i64 q.call.kind, .int .i64 q.call.src, .int .i64 q.call.dst, .int .i64 q.call.car, .int .i64 q.call.state, .int .i64 q.call.owner, .int .i64 q.call.born, .int .i64 q.id, .int .i64 q.car, .int .i64 q.mode, .int .i64 q.filter.kind, .int .i64 q.filter.n]]) → QR .normal ac1 wz) : (regAt Try.f6 10).wp Try.prog QR ac0 wb := by
  refine wp_region_st mixedP ⟨[0, 1, 0, 2, 3, 4, 5, 4, 5, 6, 7, 8, 9, 10, 11, 12, 13, 14, 15, 16, 17, 18, 19, 20, 21, 20, 21, 22, 23, 24, 25, 26, 27, 28, 29, 30, 31, 32, 33, 34, 35, 36, 37, 38, 39, 40, 41, 42, 43, 44, 45, 46, 47, 48, 49], by kernel_rfl⟩ [[], [0], [], [0, 1, 2], [0, 1, 2, 3], [0, 1, 2, 3, 4], [0, 1, 2, 3, 4, 5], [0, 1, 2, 3, 4], [0, 1, 2, 3, 4, 7], [0, 1, 2, 3, 4, 7, 8], [0, 1, 2, 3, 4, 5, 6, 7, 8, 9], [0, 1, 2, 3, 4, 5, 6, 7, 8, 9, 10], [0, 1, 2, 3, 4, 5, 6, 7, 8, 9, 10, 11], [0, 1, 2, 3, 4, 5, 6, 7, 8, 9, 10, 11, 12], [0, 1, 2, 3, 4, 5, 6, 7, 8, 9, 10, 11, 12, 13], [0, 1, 2, 3, 4, 5, 6, 7, 8, 9, 10, 11, 12, 13, 14], [0, 1, 2, 3, 4, 5, 6, 7, 8, 9, 10, 11, 12, 13, 14, 15], [0, 1, 2, 3, 4, 5, 6, 7, 8, 9, 10, 11, 12, 13, 14, 15, 16], [0, 1, 2, 3, 4, 5, 6, 7, 8, 9, 10, 11, 12, 13, 14, 15, 16, 17], [0, 1, 2, 3, 4, 5, 6, 7, 8, 9, 10, 11, 12, 13, 14, 15, 16, 17, 18], [0, 1, 2, 3, 4, 5, 6, 7, 8, 9, 10, 11, 12, 13, 14, 15, 16, 17, 18, 19], [0, 1, 2, 3, 4, 5, 6, 7, 8, 9, 10, 11, 12, 13, 14, 15, 16, 17, 18, 19, 20], [0, 1, 2, 3, 4, 5, 6, 7, 8, 9, 10, 11, 12, 13, 14, 15, 16, 17, 18, 19, 20, 21], [0, 1, 2, 3, 4, 5, 6, 7, 8, 9, 10, 11, 12, 13, 14, 15, 16, 17, 18, 19, 20, 21, 22], [0, 1, 2, 3, 4, 5, 6, 7, 8, 9, 10, 11, 12, 13, 14, 15, 16, 17, 18, 19, 20, 21, 22, 23], [0, 1, 2, 3, 4, 5, 6, 7, 8, 9, 10, 11, 12, 13, 14, 15, 16, 17, 18, 19, 20, 21, 22], [0, 1, 2, 3, 4, 5, 6, 7, 8, 9, 10, 11, 12, 13, 14, 15, 16, 17, 18, 19, 20, 21, 22, 25], [0, 1, 2, 3, 4, 5, 6, 7, 8, 9, 10, 11, 12, 13, 14, 15, 16, 17, 18, 19, 20, 21, 22, 25, 26], [0, 1, 2, 3, 4, 5, 6, 7, 8, 9, 10, 11, 12, 13, 14, 15, 16, 17, 18, 19, 20, 21, 22, 23, 24, 25, 26, 27], [0, 1, 2, 3, 4, 5, 6, 7, 8, 9, 10, 11, 12, 13, 14, 15, 16, 17, 18, 19, 20, 21, 22, 23, 24, 25, 26, 27, 28], [0, 1, 2, 3, 4, 5, 6, 7, 8, 9, 10, 11, 12, 13, 14, 15, 16, 17, 18, 19, 20, 21, 22, 23, 24, 25, 26, 27, 28, 29], [0, 1, 2, 3, 4, 5, 6, 7, 8, 9, 10, 11, 12, 13, 14, 15, 16, 17, 18, 19, 20, 21, 22, 23, 24, 25, 26, 27, 28, 29, 30], [0, 1, 2, 3, 4, 5, 6, 7, 8, 9, 10, 11, 12, 13, 14, 15, 16, 17, 18, 19, 20, 21, 22, 23, 24, 25, 26, 27, 28, 29, 30, 31], [0, 1, 2, 3, 4, 5, 6, 7, 8, 9, 10, 11, 12, 13, 14, 15, 16, 17, 18, 19, 20, 21, 22, 23, 24, 25, 26, 27, 28, 29, 30, 31, 32], [0, 1, 2, 3, 4, 5, 6, 7, 8, 9, 10, 11, 12, 13, 14, 15, 16, 17, 18, 19, 20, 21, 22, 23, 24, 25, 26, 27, 28, 29, 30, 31, 32, 33], [0, 1, 2, 3, 4, 5, 6, 7, 8, 9, 10, 11, 12, 13, 14, 15, 16, 17, 18, 19, 20, 21, 22, 23, 24, 25, 26, 27, 28, 29, 30, 31, 32, 33, 34], [0, 1, 2, 3, 4, 5, 6, 7, 8, 9, 10, 11, 12, 13, 14, 15, 16, 17, 18, 19, 20, 21, 22, 23, 24, 25, 26, 27, 28, 29, 30, 31, 32, 33, 34, 35], [0, 1, 2, 3, 4, 5, 6, 7, 8, 9, 10, 11, 12, 13, 14, 15, 16, 17, 18, 19, 20, 21, 22, 23, 24, 25, 26, 27, 28, 29, 30, 31, 32, 33, 34, 35, 36], [0, 1, 2, 3, 4, 5, 6, 7, 8, 9, 10, 11, 12, 13, 14, 15, 16, 17, 18, 19, 20, 21, 22, 23, 24, 25, 26, 27, 28, 29, 30, 31, 32, 33, 34, 35, 36, 37], [0, 1, 2, 3, 4, 5, 6, 7, 8, 9, 10, 11, 12, 13, 14, 15, 16, 17, 18, 19, 20, 21, 22, 23, 24, 25, 26, 27, 28, 29, 30, 31, 32, 33, 34, 35, 36, 37, 38], [0, 1, 2, 3, 4, 5, 6, 7, 8, 9, 10, 11, 12, 13, 14, 15, 16, 17, 18, 19, 20, 21, 22, 23, 24, 25, 26, 27, 28, 29, 30, 31, 32, 33, 34, 35, 36, 37, 38, 39], [0, 1, 2, 3, 4, 5, 6, 7, 8, 9, 10, 11, 12, 13, 14, 15, 16, 17, 18, 19, 20, 21, 22, 23, 24, 25, 26, 27, 28, 29, 30, 31, 32, 33, 34, 35, 36, 37, 38, 39, 40], [0, 1, 2, 3, 4, 5, 6, 7, 8, 9, 10, 11, 12, 13, 14, 15, 16, 17, 18, 19, 20, 21, 22, 23, 24, 25, 26, 27, 28, 29, 30, 31, 32, 33, 34, 35, 36, 37, 38, 39, 40, 41], [0, 1, 2, 3, 4, 5, 6, 7, 8, 9, 10, 11, 12, 13, 14, 15, 16, 17, 18, 19, 20, 21, 22, 23, 24, 25, 26, 27, 28, 29, 30, 31, 32, 33, 34, 35, 36, 37, 38, 39, 40, 41, 42], [0, 1, 2, 3, 4, 5, 6, 7, 8, 9, 10, 11, 12, 13, 14, 15, 16, 17, 18, 19, 20, 21, 22, 23, 24, 25, 26, 27, 28, 29, 30, 31, 32, 33, 34, 35, 36, 37, 38, 39, 40, 41, 42, 43], [0, 1, 2, 3, 4, 5, 6, 7, 8, 9, 10, 11, 12, 13, 14, 15, 16, 17, 18, 19, 20, 21, 22, 23, 24, 25, 26, 27, 28, 29, 30, 31, 32, 33, 34, 35, 36, 37, 38, 39, 40, 41, 42, 43, 44], [0, 1, 2, 3, 4, 5, 6, 7, 8, 9, 10, 11, 12, 13, 14, 15, 16, 17, 18, 19, 20, 21, 22, 23, 24, 25, 26, 27, 28, 29, 30, 31, 32, 33, 34, 35, 36, 37, 38, 39, 40, 41, 42, 43, 44, 45], [0, 1, 2, 3, 4, 5, 6, 7, 8, 9, 10, 11, 12, 13, 14, 15, 16, 17, 18, 19, 20, 21, 22, 23, 24, 25, 26, 27, 28, 29, 30, 31, 32, 33, 34, 35, 36, 37, 38, 39, 40, 41, 42, 43, 44, 45, 46], [0, 1, 2, 3, 4, 5, 6, 7, 8, 9, 10, 11, 12, 13, 14, 15, 16, 17, 18, 19, 20, 21, 22, 23, 24, 25, 26, 27, 28, 29, 30, 31, 32, 33, 34, 35, 36, 37, 38, 39, 40, 41, 42, 43, 44, 45, 46, 47], [0, 1, 2, 3, 4, 5, 6, 7, 8, 9, 10, 11, 12, 13, 14, 15, 16, 17, 18, 19, 20, 21, 22, 23, 24, 25, 26, 27, 28, 29, 30, 31, 32, 33, 34, 35, 36, 37, 38, 39, 40, 41, 42, 43, 44, 45, 46, 47, 48], [0, 1, 2, 3, 4, 5, 6, 7, 8, 9, 10, 11, 12, 13, 14, 15, 16, 17, 18, 19, 20, 21, 22, 23, 24, 25, 26, 27, 28, 29, 30, 31, 32, 33, 34, 35, 36, 37, 38, 39, 40, 41, 42, 43, 44, 45, 46, 47, 48, 49], [0, 1, 2, 3, 4, 5, 6, 7, 8, 9, 10, 11, 12, 13, 14, 15, 16, 17, 18, 19, 20, 21, 22, 23, 24, 25, 26, 27, 28, 29, 30, 31, 32, 33, 34, 35, 36, 37, 38, 39, 40, 41, 42, 43, 44, 45, 46, 47, 48, 49, 50], [0, 1, 2, 3, 4, 5, 6, 7, 8, 9, 10, 11, 12, 13, 14, 15, 16, 17, 18, 19, 20, 21, 22, 23, 24, 25, 26, 27, 28, 29, 30, 31, 32, 33, 34, 35, 36, 37, 38, 39, 40, 41, 42, 43, 44, 45, 46, 47, 48, 49, 50, 51], [0, 1, 2, 3, 4, 5, 6, 7, 8, 9, 10, 11, 12, 13, 14, 15, 16, 17, 18, 19, 20, 21, 22, 23, 24, 25, 26, 27, 28, 29, 30, 31, 32, 33, 34, 35, 36, 37, 38, 39, 40, 41, 42, 43, 44, 45, 46, 47, 48, 49, 50, 51, 52], [0, 1, 2, 3, 4, 5, 6, 7, 8, 9, 10, 11, 12, 13, 14, 15, 16, 17, 18, 19, 20, 21, 22, 23, 24, 25, 26, 27, 28, 29, 30, 31, 32, 33, 34, 35, 36, 37, 38, 39, 40, 41, 42, 43, 44, 45, 46, 47, 48, 49, 50, 51, 52, 53]] (by kernel_rfl) (by kernel_rfl) 122 hz (by kernel_rfl) (fun (xx : Unit) jx => nth [.string s, .int .i64 (seqV s), .int .i64 0, .bool false, .bool false, .agg #[.int .i64 q.kind, .int .i64 q.seq, .int .i64 q.who, .int .i64 q.role, .int .u32 q.token, .int .u64 q.key, .int .i64 q.call.id, .int .i64 q.call.kind, .int .i64 q.call.src, .int .i64 q.call.dst, .int .i64 q.call.car, .int .i64 q.call.state, .int .i64 q.call.owner, .int .i64 q.call.born, .int .i64 q.id, .int .i64 q.car, .int .i64 q.mode, .int .i64 q.filter.kind, .int .i64 q.filter.n], .bool (writesV q), .pointer (some ⟨b3, 0, none⟩), .int .i64 q.kind, .bool (q.kind == 4), .bool (q.kind == 4), bif !(q.kind == 4) then .pointer (some ⟨b3, 0, none⟩) else undef, bif !(q.kind == 4) then .int .i64 q.kind else undef, bif !(q.kind == 4) then .bool (q.kind == 5) else undef, .bool ((q.kind == 4) || (q.kind == 5)), .bool ((q.kind == 4) || (q.kind == 5)), bif !((q.kind == 4) || (q.kind == 5)) then .pointer (some ⟨b3, 0, none⟩) else undef, bif !((q.kind == 4) || (q.kind == 5)) then .int .i64 q.kind else undef, bif !((q.kind == 4) || (q.kind == 5)) then .bool (q.kind == 10) else undef, .bool (((q.kind == 4) || (q.kind == 5)) || (q.kind == 10)), .bool false, .bool false, .bool false, .agg #[.int .i64 f.kind, .int .i64 f.n], .bool (isFilterV f), .pointer (some ⟨b5, 0, none⟩), .int .i64 f.kind, .bool (f.kind == 0), .bool (f.kind == 0), bif (f.kind == 0) then .pointer (some ⟨b5, 1, none⟩) else undef, bif (f.kind == 0) then .int .i64 f.n else undef, bif (f.kind == 0) then .bool (f.n == 0) else undef, .bool ((f.kind == 0) && (f.n == 0)), .bool ((f.kind == 0) && (f.n == 0)), bif !((f.kind == 0) && (f.n == 0)) then .pointer (some ⟨b5, 0, none⟩) else undef, bif !((f.kind == 0) && (f.n == 0)) then .int .i64 f.kind else undef, bif !((f.kind == 0) && (f.n == 0)) then .bool (decide (0 < f.kind)) else undef, bif !((f.kind == 0) && (f.n == 0)) then .bool (decide (0 < f.kind)) else undef, bif (!((f.kind == 0) && (f.n == 0)) && (decide (0 < f.kind))) then .pointer (some ⟨b5, 0, none⟩) else undef, bif (!((f.kind == 0) && (f.n == 0)) && (decide (0 < f.kind))) then .int .i64 f.kind else undef, bif (!((f.kind == 0) && (f.n == 0)) && (decide (0 < f.kind))) then .bool (decide (f.kind < 4)) else undef, bif !((f.kind == 0) && (f.n == 0)) then .bool ((decide (0 < f.kind)) && (decide (f.kind < 4))) else undef, bif !((f.kind == 0) && (f.n == 0)) then .bool ((decide (0 < f.kind)) && (decide (f.kind < 4))) else undef, bif (!((f.kind == 0) && (f.n == 0)) && ((decide (0 < f.kind)) && (decide (f.kind < 4)))) then .pointer (some ⟨b5, 1, none⟩) else undef, bif (!((f.kind == 0) && (f.n == 0)) && ((decide (0 < f.kind)) && (decide (f.kind < 4)))) then .int .i64 f.n else undef, bif (!((f.kind == 0) && (f.n == 0)) && ((decide (0 < f.kind)) && (decide (f.kind < 4)))) then .bool (decide (0 < f.n)) else undef, bif !((f.kind == 0) && (f.n == 0)) then .bool (((decide (0 < f.kind)) && (decide (f.kind < 4))) && (decide (0 < f.n))) else undef, bif !((f.kind == 0) && (f.n == 0)) then .bool (((decide (0 < f.kind)) && (decide (f.kind < 4))) && (decide (0 < f.n))) else undef, bif (!((f.kind == 0) && (f.n == 0)) && (((decide (0 < f.kind)) && (decide (f.kind < 4))) && (decide (0 < f.n)))) then .pointer (some ⟨b5, 1, none⟩) else undef, bif (!((f.kind == 0) && (f.n == 0)) && (((decide (0 < f.kind)) && (decide (f.kind < 4))) && (decide (0 < f.n)))) then .int .i64 f.n else undef, bif (!((f.kind == 0) && (f.n == 0)) && (((decide (0 < f.kind)) && (decide (f.kind < 4))) && (decide (0 < f.n)))) then .bool (decide (f.n ≤ 1073741824)) else undef, bif !((f.kind == 0) && (f.n == 0)) then .bool ((((decide (0 < f.kind)) && (decide (f.kind < 4))) && (decide (0 < f.n))) && (decide (f.n ≤ 1073741824))) else undef, .bool (((f.kind == 0) && (f.n == 0)) || ((((decide (0 < f.kind)) && (decide (f.kind < 4))) && (decide (0 < f.n))) && (decide (f.n ≤ 1073741824)))), .bool false, .bool false] jx) (fun (LL : Nat → Bool) (xx : Unit) ww => Hp [] wa ww [rB b5 27 [.int .i64 f.kind, .int .i64 f.n], rB b3 29 [.int .i64 q.kind, .int .i64 q.seq, .int .i64 q.who, .int .i64 q.role, .int .u32 q.token, .int .u64 q.key, .int .i64 q.call.id, .int .i64 q.call.kind, .int .i64 q.call.src, .int .i64 q.call.dst, .int .i64 q.call.car, .int .i64 q.call.state, .int .i64 q.call.owner, .int .i64 q.call.born, .int .i64 q.id, .int .i64 q.car, .int .i64 q.mode, .int .i64 q.filter.kind, .int .i64 q.filter.n]]) () H.out.drew ?_ (steps_al ?_) ?_ ?_
  · exact fun _ _ _ _ _ h => h
  · refine al_cons ?_ (al_cons ?_ (al_cons ?_ (al_cons ?_ (al_cons ?_ (al_cons ?_ (al_cons ?_ (al_cons ?_ (al_cons ?_ (al_cons ?_ (al_cons ?_ (al_cons ?_ (al_cons ?_ (al_cons ?_ (al_cons ?_ (al_cons ?_ (al_cons ?_ (al_cons ?_ (al_cons ?_ (al_cons ?_ (al_cons ?_ (al_cons ?_ (al_cons ?_ (al_cons ?_ (al_cons ?_ (al_cons ?_ (al_cons ?_ (al_cons ?_ (al_cons ?_ (al_cons ?_ (al_cons ?_ (al_cons ?_ (al_cons ?_ (al_cons ?_ (al_cons ?_ (al_cons ?_ (al_cons ?_ (al_cons ?_ (al_cons ?_ (al_cons ?_ (al_cons ?_ (al_cons ?_ (al_cons ?_ (al_cons ?_ (al_cons ?_ (al_cons ?_ (al_cons ?_ (al_cons ?_ (al_cons ?_ (al_cons ?_ (al_cons ?_ (al_cons ?_ (al_cons ?_ (al_cons ?_ (al_cons ?_ (al_nil)))))))))))))))))))))))))))))))))))))))))))))))))))))))
    · intro LL xx ac wc sg hst hwant QQ hgo
      exact op_val hwant hgo hst _ (exec_move rfl ((sg.free 1 (by kernel_rfl)).trans so1)) rfl
    · intro LL xx ac wc sg hst hwant QQ hgo
      have se40 : ac.eval (.tmp 40) = _ := (sg.slot 0 (sg.anc 0 rfl))
      have sg40 := gt_of se40
      (try simp only [nth] at se40 sg40)
      refine op_call hwant hgo 17 #[.string s] (by simp only [execOp]; go_simp) (seqC s wc) ?_
      rintro er wd ⟨rfl, hof⟩
      exact ⟨_, (), rfl, fun _ _ => rfl, rfl, Hp.quiet hst hof⟩
    · intro LL xx ac wc sg hst hwant QQ hgo
      exact op_val hwant hgo hst _ (exec_move rfl ((sg.free 7 (by kernel_rfl)).trans so7)) rfl
    · intro LL xx ac wc sg hst hwant QQ hgo
      have se41 : ac.eval (.tmp 41) = _ := (sg.slot 1 (sg.anc 1 rfl))
      have sg41 := gt_of se41
      have se42 : ac.eval (.tmp 42) = _ := (sg.slot 2 (sg.anc 2 rfl))
      have sg42 := gt_of se42
      (try simp only [nth] at se41 sg41 se42 sg42)
      exact op_val hwant hgo hst _ (by simp only [execOp, nth]; go_simp <;> omega) rfl
    · intro LL xx ac wc sg hst hwant QQ hgo
      exact op_val hwant hgo hst _ (exec_move rfl (sg.slot 3 (sg.anc 3 rfl))) rfl
    · intro LL xx ac wc sg hst hwant QQ hgo
      have H := Lib.hid hst
      refine hpA_load tymsg_Request H rfl ((sg.free 3 (by kernel_rfl)).trans so3) hwant (by (repeat (first | exact List.Mem.head _ | apply List.Mem.tail))) (by rfl) rfl ?_
      exact hgo _ () _ (fun _ _ => rfl) rfl hst
    · intro LL xx ac wc sg hst hwant QQ hgo
      have se45 : ac.eval (.tmp 45) = _ := (sg.slot 5 (sg.anc 5 rfl))
      have sg45 := gt_of se45
      (try simp only [nth] at se45 sg45)
      refine op_call hwant hgo 24 #[.agg #[.int .i64 q.kind, .int .i64 q.seq, .int .i64 q.who, .int .i64 q.role, .int .u32 q.token, .int .u64 q.key, .int .i64 q.call.id, .int .i64 q.call.kind, .int .i64 q.call.src, .int .i64 q.call.dst, .int .i64 q.call.car, .int .i64 q.call.state, .int .i64 q.call.owner, .int .i64 q.call.born, .int .i64 q.id, .int .i64 q.car, .int .i64 q.mode, .int .i64 q.filter.kind, .int .i64 q.filter.n]] (by simp only [execOp]; go_simp) (writes q wc) ?_
      rintro er wd ⟨rfl, hof⟩
      exact ⟨_, (), rfl, fun _ _ => rfl, rfl, Hp.quiet hst hof⟩
    · intro LL xx ac wc sg hst hwant QQ hgo
      have se3 : ac.eval (.tmp 3) = _ := ((sg.free 3 (by kernel_rfl)).trans so3)
      have sg3 := gt_of se3
      exact op_val hwant hgo hst _ (by simp only [execOp, nth]; go_simp <;> omega) rfl
    · intro LL xx ac wc sg hst hwant QQ hgo
      have H := Lib.hid hst
      refine hpA_load1 tyint H rfl (sg.slot 7 (sg.anc 7 rfl)) hwant (by (repeat (first | exact List.Mem.head _ | apply List.Mem.tail))) (by rfl) ?_
      exact hgo _ () _ (fun _ _ => rfl) rfl hst
    · intro LL xx ac wc sg hst hwant QQ hgo
      have se48 : ac.eval (.tmp 48) = _ := (sg.slot 8 (sg.anc 8 rfl))
      have sg48 := gt_of se48
      (try simp only [nth] at se48 sg48)
      exact op_val hwant hgo hst _ (by simp only [execOp, nth]; go_simp <;> omega) rfl
    · intro LL xx ac wc sg hst hwant QQ hgo
      exact op_val hwant hgo hst _ (exec_move rfl (sg.slot 9 (sg.anc 9 rfl))) rfl
    · intro LL xx ac wc sg hst hwant QQ hgo
      have hG : (!(q.kind == 4)) = true := (want_f rfl rfl (sg.slot 10 (sg.anc 10 rfl))).symm.trans hwant
      have se3 : ac.eval (.tmp 3) = _ := ((sg.free 3 (by kernel_rfl)).trans so3)
      have sg3 := gt_of se3
      exact op_val hwant hgo hst _ (by simp only [execOp, nth]; go_simp <;> omega) (cI hG)
    · intro LL xx ac wc sg hst hwant QQ hgo
      have hG : (!(q.kind == 4)) = true := (want_f rfl rfl (sg.slot 10 (sg.anc 10 rfl))).symm.trans hwant
      have H := Lib.hid hst
      refine hpA_load1 tyint H rfl (cT (sg.slot 11 (sg.anc 11 rfl)) hG) hwant (by (repeat (first | exact List.Mem.head _ | apply List.Mem.tail))) (by rfl) ?_
      exact hgo _ () _ (fun _ _ => rfl) (cI hG) hst
    · intro LL xx ac wc sg hst hwant QQ hgo
      have hG : (!(q.kind == 4)) = true := (want_f rfl rfl (sg.slot 10 (sg.anc 10 rfl))).symm.trans hwant
      have se52 : ac.eval (.tmp 52) = _ := (cT (sg.slot 12 (sg.anc 12 rfl)) hG)
      have sg52 := gt_of se52
      (try simp only [nth] at se52 sg52)
      exact op_val hwant hgo hst _ (by simp only [execOp, nth]; go_simp <;> omega) (cI hG)
    · intro LL xx ac wc sg hst hwant QQ hgo
      exact op_val hwant hgo hst (.bool ((q.kind == 4) || (q.kind == 5))) (exec_or (Y := q.kind == 5) rfl (sg.slot 10 (sg.anc 10 rfl)) (fun qq => cT (sg.slot 13 (sg.anc 13 rfl)) (bk qq))) rfl
    · intro LL xx ac wc sg hst hwant QQ hgo
      exact op_val hwant hgo hst _ (exec_move rfl (sg.slot 14 (sg.anc 14 rfl))) rfl
    · intro LL xx ac wc sg hst hwant QQ hgo
      have hG : (!((q.kind == 4) || (q.kind == 5))) = true := (want_f rfl rfl (sg.slot 15 (sg.anc 15 rfl))).symm.trans hwant
      have se3 : ac.eval (.tmp 3) = _ := ((sg.free 3 (by kernel_rfl)).trans so3)
      have sg3 := gt_of se3
      exact op_val hwant hgo hst _ (by simp only [execOp, nth]; go_simp <;> omega) (cI hG)
    · intro LL xx ac wc sg hst hwant QQ hgo
      have hG : (!((q.kind == 4) || (q.kind == 5))) = true := (want_f rfl rfl (sg.slot 15 (sg.anc 15 rfl))).symm.trans hwant
      have H := Lib.hid hst
      refine hpA_load1 tyint H rfl (cT (sg.slot 16 (sg.anc 16 rfl)) hG) hwant (by (repeat (first | exact List.Mem.head _ | apply List.Mem.tail))) (by rfl) ?_
      exact hgo _ () _ (fun _ _ => rfl) (cI hG) hst
    · intro LL xx ac wc sg hst hwant QQ hgo
      have hG : (!((q.kind == 4) || (q.kind == 5))) = true := (want_f rfl rfl (sg.slot 15 (sg.anc 15 rfl))).symm.trans hwant
      have se57 : ac.eval (.tmp 57) = _ := (cT (sg.slot 17 (sg.anc 17 rfl)) hG)
      have sg57 := gt_of se57
      (try simp only [nth] at se57 sg57)
      exact op_val hwant hgo hst _ (by simp only [execOp, nth]; go_simp <;> omega) (cI hG)
    · intro LL xx ac wc sg hst hwant QQ hgo
      exact op_val hwant hgo hst (.bool (((q.kind == 4) || (q.kind == 5)) || (q.kind == 10))) (exec_or (Y := q.kind == 10) rfl (sg.slot 15 (sg.anc 15 rfl)) (fun qq => cT (sg.slot 18 (sg.anc 18 rfl)) (bk qq))) rfl
    · intro LL xx ac wc sg hst hwant QQ hgo
      exact op_val hwant hgo hst (.bool false) (exec_bne (c := true) rfl (sg.slot 6 (sg.anc 6 rfl)) (sg.slot 19 (sg.anc 19 rfl)) Try.underlying4 hwr) rfl
    · intro LL xx ac wc sg hst hwant QQ hgo
      exact op_val hwant hgo hst (.bool false) (exec_pick (B := false) (U := undef) (V := .bool false) rfl (sg.slot 4 (sg.anc 4 rfl)) (fun h => by cases h) (fun _ => (sg.slot 20 (sg.anc 20 rfl)))) rfl
    · intro LL xx ac wc sg hst hwant QQ hgo
      exact op_val hwant hgo hst _ (exec_move rfl (sg.slot 21 (sg.anc 21 rfl))) rfl
    · intro LL xx ac wc sg hst hwant QQ hgo
      have H := Lib.hid hst
      refine hpA_load tymsg_Filter H rfl ((sg.free 5 (by kernel_rfl)).trans so5) hwant (by (repeat (first | exact List.Mem.head _ | apply List.Mem.tail))) (by rfl) rfl ?_
      exact hgo _ () _ (fun _ _ => rfl) rfl hst
    · intro LL xx ac wc sg hst hwant QQ hgo
      have se63 : ac.eval (.tmp 63) = _ := (sg.slot 23 (sg.anc 23 rfl))
      have sg63 := gt_of se63
      (try simp only [nth] at se63 sg63)
      refine op_call hwant hgo 25 #[.agg #[.int .i64 f.kind, .int .i64 f.n]] (by simp only [execOp]; go_simp) (filterIs f wc) ?_
      rintro er wd ⟨rfl, hof⟩
      exact ⟨_, (), rfl, fun _ _ => rfl, rfl, Hp.quiet hst hof⟩
    · intro LL xx ac wc sg hst hwant QQ hgo
      have se5 : ac.eval (.tmp 5) = _ := ((sg.free 5 (by kernel_rfl)).trans so5)
      have sg5 := gt_of se5
      exact op_val hwant hgo hst _ (by simp only [execOp, nth]; go_simp <;> omega) rfl
    · intro LL xx ac wc sg hst hwant QQ hgo
      have H := Lib.hid hst
      refine hpA_load1 tyint H rfl (sg.slot 25 (sg.anc 25 rfl)) hwant (by (repeat (first | exact List.Mem.head _ | apply List.Mem.tail))) (by rfl) ?_
      exact hgo _ () _ (fun _ _ => rfl) rfl hst
    · intro LL xx ac wc sg hst hwant QQ hgo
      have se66 : ac.eval (.tmp 66) = _ := (sg.slot 26 (sg.anc 26 rfl))
      have sg66 := gt_of se66
      (try simp only [nth] at se66 sg66)
      exact op_val hwant hgo hst _ (by simp only [execOp, nth]; go_simp <;> omega) rfl
    · intro LL xx ac wc sg hst hwant QQ hgo
      exact op_val hwant hgo hst _ (exec_move rfl (sg.slot 27 (sg.anc 27 rfl))) rfl
    · intro LL xx ac wc sg hst hwant QQ hgo
      have hG : (f.kind == 0) = true := (want_t rfl rfl (sg.slot 28 (sg.anc 28 rfl))).symm.trans hwant
      have se5 : ac.eval (.tmp 5) = _ := ((sg.free 5 (by kernel_rfl)).trans so5)
      have sg5 := gt_of se5
      exact op_val hwant hgo hst _ (by simp only [execOp, nth]; go_simp <;> omega) (cI hG)
    · intro LL xx ac wc sg hst hwant QQ hgo
      have hG : (f.kind == 0) = true := (want_t rfl rfl (sg.slot 28 (sg.anc 28 rfl))).symm.trans hwant
      have H := Lib.hid hst
      refine hpA_load1 tyint H rfl (cT (sg.slot 29 (sg.anc 29 rfl)) hG) hwant (by (repeat (first | exact List.Mem.head _ | apply List.Mem.tail))) (by rfl) ?_
      exact hgo _ () _ (fun _ _ => rfl) (cI hG) hst
    · intro LL xx ac wc sg hst hwant QQ hgo
      have hG : (f.kind == 0) = true := (want_t rfl rfl (sg.slot 28 (sg.anc 28 rfl))).symm.trans hwant
      have se70 : ac.eval (.tmp 70) = _ := (cT (sg.slot 30 (sg.anc 30 rfl)) hG)
      have sg70 := gt_of se70
      (try simp only [nth] at se70 sg70)
      exact op_val hwant hgo hst _ (by simp only [execOp, nth]; go_simp <;> omega) (cI hG)
    · intro LL xx ac wc sg hst hwant QQ hgo
      exact op_val hwant hgo hst (.bool ((f.kind == 0) && (f.n == 0))) (exec_and (Y := f.n == 0) rfl (sg.slot 28 (sg.anc 28 rfl)) (fun qq => cT (sg.slot 31 (sg.anc 31 rfl)) qq)) rfl
    · intro LL xx ac wc sg hst hwant QQ hgo
      exact op_val hwant hgo hst _ (exec_move rfl (sg.slot 32 (sg.anc 32 rfl))) rfl
    · intro LL xx ac wc sg hst hwant QQ hgo
      have hG : (!((f.kind == 0) && (f.n == 0))) = true := (want_f rfl rfl (sg.slot 33 (sg.anc 33 rfl))).symm.trans hwant
      have se5 : ac.eval (.tmp 5) = _ := ((sg.free 5 (by kernel_rfl)).trans so5)
      have sg5 := gt_of se5
      exact op_val hwant hgo hst _ (by simp only [execOp, nth]; go_simp <;> omega) (cI hG)
    · intro LL xx ac wc sg hst hwant QQ hgo
      have hG : (!((f.kind == 0) && (f.n == 0))) = true := (want_f rfl rfl (sg.slot 33 (sg.anc 33 rfl))).symm.trans hwant
      have H := Lib.hid hst
      refine hpA_load1 tyint H rfl (cT (sg.slot 34 (sg.anc 34 rfl)) hG) hwant (by (repeat (first | exact List.Mem.head _ | apply List.Mem.tail))) (by rfl) ?_
      exact hgo _ () _ (fun _ _ => rfl) (cI hG) hst
    · intro LL xx ac wc sg hst hwant QQ hgo
      have hG : (!((f.kind == 0) && (f.n == 0))) = true := (want_f rfl rfl (sg.slot 33 (sg.anc 33 rfl))).symm.trans hwant
      have se75 : ac.eval (.tmp 75) = _ := (cT (sg.slot 35 (sg.anc 35 rfl)) hG)
      have sg75 := gt_of se75
      (try simp only [nth] at se75 sg75)
      exact op_val hwant hgo hst _ (by simp only [execOp, nth]; go_simp <;> omega) (cI hG)
    · intro LL xx ac wc sg hst hwant QQ hgo
      have hG : (!((f.kind == 0) && (f.n == 0))) = true := (want_f rfl rfl (sg.slot 33 (sg.anc 33 rfl))).symm.trans hwant
      exact op_val hwant hgo hst _ (exec_move rfl (cT (sg.slot 36 (sg.anc 36 rfl)) hG)) (cI hG)
    · intro LL xx ac wc sg hst hwant QQ hgo
      have hG : (!((f.kind == 0) && (f.n == 0)) && (decide (0 < f.kind))) = true := (want_gt rfl rfl (sg.slot 37 (sg.anc 37 rfl))).symm.trans hwant
      have se5 : ac.eval (.tmp 5) = _ := ((sg.free 5 (by kernel_rfl)).trans so5)
      have sg5 := gt_of se5
      exact op_val hwant hgo hst _ (by simp only [execOp, nth]; go_simp <;> omega) (cI hG)
    · intro LL xx ac wc sg hst hwant QQ hgo
      have hG : (!((f.kind == 0) && (f.n == 0)) && (decide (0 < f.kind))) = true := (want_gt rfl rfl (sg.slot 37 (sg.anc 37 rfl))).symm.trans hwant
      have H := Lib.hid hst
      refine hpA_load1 tyint H rfl (cT (sg.slot 38 (sg.anc 38 rfl)) hG) hwant (by (repeat (first | exact List.Mem.head _ | apply List.Mem.tail))) (by rfl) ?_
      exact hgo _ () _ (fun _ _ => rfl) (cI hG) hst
    · intro LL xx ac wc sg hst hwant QQ hgo
      have hG : (!((f.kind == 0) && (f.n == 0)) && (decide (0 < f.kind))) = true := (want_gt rfl rfl (sg.slot 37 (sg.anc 37 rfl))).symm.trans hwant
      have se79 : ac.eval (.tmp 79) = _ := (cT (sg.slot 39 (sg.anc 39 rfl)) hG)
      have sg79 := gt_of se79
      (try simp only [nth] at se79 sg79)
      exact op_val hwant hgo hst _ (by simp only [execOp, nth]; go_simp <;> omega) (cI hG)
    · intro LL xx ac wc sg hst hwant QQ hgo
      have hG : (!((f.kind == 0) && (f.n == 0))) = true := (want_f rfl rfl (sg.slot 33 (sg.anc 33 rfl))).symm.trans hwant
      exact op_val hwant hgo hst (.bool ((decide (0 < f.kind)) && (decide (f.kind < 4)))) (exec_and (Y := decide (f.kind < 4)) rfl (cT (sg.slot 37 (sg.anc 37 rfl)) hG) (fun qq => cT (sg.slot 40 (sg.anc 40 rfl)) (bj hG qq))) (cI hG)
    · intro LL xx ac wc sg hst hwant QQ hgo
      have hG : (!((f.kind == 0) && (f.n == 0))) = true := (want_f rfl rfl (sg.slot 33 (sg.anc 33 rfl))).symm.trans hwant
      exact op_val hwant hgo hst _ (exec_move rfl (cT (sg.slot 41 (sg.anc 41 rfl)) hG)) (cI hG)
    · intro LL xx ac wc sg hst hwant QQ hgo
      have hG : (!((f.kind == 0) && (f.n == 0)) && ((decide (0 < f.kind)) && (decide (f.kind < 4)))) = true := (want_gt rfl rfl (sg.slot 42 (sg.anc 42 rfl))).symm.trans hwant
      have se5 : ac.eval (.tmp 5) = _ := ((sg.free 5 (by kernel_rfl)).trans so5)
      have sg5 := gt_of se5
      exact op_val hwant hgo hst _ (by simp only [execOp, nth]; go_simp <;> omega) (cI hG)
    · intro LL xx ac wc sg hst hwant QQ hgo
      have hG : (!((f.kind == 0) && (f.n == 0)) && ((decide (0 < f.kind)) && (decide (f.kind < 4)))) = true := (want_gt rfl rfl (sg.slot 42 (sg.anc 42 rfl))).symm.trans hwant
      have H := Lib.hid hst
      refine hpA_load1 tyint H rfl (cT (sg.slot 43 (sg.anc 43 rfl)) hG) hwant (by (repeat (first | exact List.Mem.head _ | apply List.Mem.tail))) (by rfl) ?_
      exact hgo _ () _ (fun _ _ => rfl) (cI hG) hst
    · intro LL xx ac wc sg hst hwant QQ hgo
      have hG : (!((f.kind == 0) && (f.n == 0)) && ((decide (0 < f.kind)) && (decide (f.kind < 4)))) = true := (want_gt rfl rfl (sg.slot 42 (sg.anc 42 rfl))).symm.trans hwant
      have se84 : ac.eval (.tmp 84) = _ := (cT (sg.slot 44 (sg.anc 44 rfl)) hG)
      have sg84 := gt_of se84
      (try simp only [nth] at se84 sg84)
      exact op_val hwant hgo hst _ (by simp only [execOp, nth]; go_simp <;> omega) (cI hG)
    · intro LL xx ac wc sg hst hwant QQ hgo
      have hG : (!((f.kind == 0) && (f.n == 0))) = true := (want_f rfl rfl (sg.slot 33 (sg.anc 33 rfl))).symm.trans hwant
      exact op_val hwant hgo hst (.bool (((decide (0 < f.kind)) && (decide (f.kind < 4))) && (decide (0 < f.n)))) (exec_and (Y := decide (0 < f.n)) rfl (cT (sg.slot 42 (sg.anc 42 rfl)) hG) (fun qq => cT (sg.slot 45 (sg.anc 45 rfl)) (bj hG qq))) (cI hG)
    · intro LL xx ac wc sg hst hwant QQ hgo
      have hG : (!((f.kind == 0) && (f.n == 0))) = true := (want_f rfl rfl (sg.slot 33 (sg.anc 33 rfl))).symm.trans hwant
      exact op_val hwant hgo hst _ (exec_move rfl (cT (sg.slot 46 (sg.anc 46 rfl)) hG)) (cI hG)
    · intro LL xx ac wc sg hst hwant QQ hgo
      have hG : (!((f.kind == 0) && (f.n == 0)) && (((decide (0 < f.kind)) && (decide (f.kind < 4))) && (decide (0 < f.n)))) = true := (want_gt rfl rfl (sg.slot 47 (sg.anc 47 rfl))).symm.trans hwant
      have se5 : ac.eval (.tmp 5) = _ := ((sg.free 5 (by kernel_rfl)).trans so5)
      have sg5 := gt_of se5
      exact op_val hwant hgo hst _ (by simp only [execOp, nth]; go_simp <;> omega) (cI hG)
    · intro LL xx ac wc sg hst hwant QQ hgo
      have hG : (!((f.kind == 0) && (f.n == 0)) && (((decide (0 < f.kind)) && (decide (f.kind < 4))) && (decide (0 < f.n)))) = true := (want_gt rfl rfl (sg.slot 47 (sg.anc 47 rfl))).symm.trans hwant
      have H := Lib.hid hst
      refine hpA_load1 tyint H rfl (cT (sg.slot 48 (sg.anc 48 rfl)) hG) hwant (by (repeat (first | exact List.Mem.head _ | apply List.Mem.tail))) (by rfl) ?_
      exact hgo _ () _ (fun _ _ => rfl) (cI hG) hst
    · intro LL xx ac wc sg hst hwant QQ hgo
      have hG : (!((f.kind == 0) && (f.n == 0)) && (((decide (0 < f.kind)) && (decide (f.kind < 4))) && (decide (0 < f.n)))) = true := (want_gt rfl rfl (sg.slot 47 (sg.anc 47 rfl))).symm.trans hwant
      have se89 : ac.eval (.tmp 89) = _ := (cT (sg.slot 49 (sg.anc 49 rfl)) hG)
      have sg89 := gt_of se89
      (try simp only [nth] at se89 sg89)
      exact op_val hwant hgo hst _ (by simp only [execOp, nth]; go_simp <;> omega) (cI hG)
    · intro LL xx ac wc sg hst hwant QQ hgo
      have hG : (!((f.kind == 0) && (f.n == 0))) = true := (want_f rfl rfl (sg.slot 33 (sg.anc 33 rfl))).symm.trans hwant
      exact op_val hwant hgo hst (.bool ((((decide (0 < f.kind)) && (decide (f.kind < 4))) && (decide (0 < f.n))) && (decide (f.n ≤ 1073741824)))) (exec_and (Y := decide (f.n ≤ 1073741824)) rfl (cT (sg.slot 47 (sg.anc 47 rfl)) hG) (fun qq => cT (sg.slot 50 (sg.anc 50 rfl)) (bj hG qq))) (cI hG)
    · intro LL xx ac wc sg hst hwant QQ hgo
      exact op_val hwant hgo hst (.bool (((f.kind == 0) && (f.n == 0)) || ((((decide (0 < f.kind)) && (decide (f.kind < 4))) && (decide (0 < f.n))) && (decide (f.n ≤ 1073741824))))) (exec_or (Y := (((decide (0 < f.kind)) && (decide (f.kind < 4))) && (decide (0 < f.n))) && (decide (f.n ≤ 1073741824))) rfl (sg.slot 33 (sg.anc 33 rfl)) (fun qq => cT (sg.slot 51 (sg.anc 51 rfl)) (bk qq))) rfl
    · intro LL xx ac wc sg hst hwant QQ hgo
      exact op_val hwant hgo hst (.bool false) (exec_bne (c := true) rfl (sg.slot 24 (sg.anc 24 rfl)) (sg.slot 52 (sg.anc 52 rfl)) Try.underlying4 hfl) rfl
    · intro LL xx ac wc sg hst hwant QQ hgo
      exact op_val hwant hgo hst (.bool false) (exec_pick (B := false) (U := undef) (V := .bool false) rfl (sg.slot 22 (sg.anc 22 rfl)) (fun h => by cases h) (fun _ => (sg.slot 53 (sg.anc 53 rfl)))) rfl
  · refine skips [5, 6, 7, 8, 9, 10, 11, 12, 13, 14, 15, 16, 17, 18, 19, 20, 23, 24, 25, 26, 27, 28, 29, 30, 31, 32, 33, 34, 35, 36, 37, 38, 39, 40, 41, 42, 43, 44, 45, 46, 47, 48, 49, 50, 51, 52, 53] (by kernel_rfl) ?_
    refine List.forall_mem_cons.2 ⟨?_, List.forall_mem_cons.2 ⟨?_, List.forall_mem_cons.2 ⟨?_, List.forall_mem_cons.2 ⟨?_, List.forall_mem_cons.2 ⟨?_, List.forall_mem_cons.2 ⟨?_, List.forall_mem_cons.2 ⟨?_, List.forall_mem_cons.2 ⟨?_, List.forall_mem_cons.2 ⟨?_, List.forall_mem_cons.2 ⟨?_, List.forall_mem_cons.2 ⟨?_, List.forall_mem_cons.2 ⟨?_, List.forall_mem_cons.2 ⟨?_, List.forall_mem_cons.2 ⟨?_, List.forall_mem_cons.2 ⟨?_, List.forall_mem_cons.2 ⟨?_, List.forall_mem_cons.2 ⟨?_, List.forall_mem_cons.2 ⟨?_, List.forall_mem_cons.2 ⟨?_, List.forall_mem_cons.2 ⟨?_, List.forall_mem_cons.2 ⟨?_, List.forall_mem_cons.2 ⟨?_, List.forall_mem_cons.2 ⟨?_, List.forall_mem_cons.2 ⟨?_, List.forall_mem_cons.2 ⟨?_, List.forall_mem_cons.2 ⟨?_, List.forall_mem_cons.2 ⟨?_, List.forall_mem_cons.2 ⟨?_, List.forall_mem_cons.2 ⟨?_, List.forall_mem_cons.2 ⟨?_, List.forall_mem_cons.2 ⟨?_, List.forall_mem_cons.2 ⟨?_, List.forall_mem_cons.2 ⟨?_, List.forall_mem_cons.2 ⟨?_, List.forall_mem_cons.2 ⟨?_, List.forall_mem_cons.2 ⟨?_, List.forall_mem_cons.2 ⟨?_, List.forall_mem_cons.2 ⟨?_, List.forall_mem_cons.2 ⟨?_, List.forall_mem_cons.2 ⟨?_, List.forall_mem_cons.2 ⟨?_, List.forall_mem_cons.2 ⟨?_, List.forall_mem_cons.2 ⟨?_, List.forall_mem_cons.2 ⟨?_, List.forall_mem_cons.2 ⟨?_, List.forall_mem_cons.2 ⟨?_, List.forall_mem_cons.2 ⟨?_, fun _ h => by cases h⟩⟩⟩⟩⟩⟩⟩⟩⟩⟩⟩⟩⟩⟩⟩⟩⟩⟩⟩⟩⟩⟩⟩⟩⟩⟩⟩⟩⟩⟩⟩⟩⟩⟩⟩⟩⟩⟩⟩⟩⟩⟩⟩⟩⟩⟩⟩
    · intro oo hop LL xx ac sg hwant
      cases Option.some.inj hop
      exact absurd ((want_f rfl rfl (sg.slot 4 (sg.anc 4 rfl))).symm.trans hwant) (by decide)
    · intro oo hop LL xx ac sg hwant
      cases Option.some.inj hop
      exact absurd ((want_f rfl rfl (sg.slot 4 (sg.anc 4 rfl))).symm.trans hwant) (by decide)
    · intro oo hop LL xx ac sg hwant
      cases Option.some.inj hop
      exact absurd ((want_f rfl rfl (sg.slot 4 (sg.anc 4 rfl))).symm.trans hwant) (by decide)
    · intro oo hop LL xx ac sg hwant
      cases Option.some.inj hop
      exact absurd ((want_f rfl rfl (sg.slot 4 (sg.anc 4 rfl))).symm.trans hwant) (by decide)
    · intro oo hop LL xx ac sg hwant
      cases Option.some.inj hop
      exact absurd ((want_f rfl rfl (sg.slot 4 (sg.anc 4 rfl))).symm.trans hwant) (by decide)
    · intro oo hop LL xx ac sg hwant
      cases Option.some.inj hop
      exact absurd ((want_f rfl rfl (sg.slot 4 (sg.anc 4 rfl))).symm.trans hwant) (by decide)
    · intro oo hop LL xx ac sg hwant
      cases Option.some.inj hop
      have hG : (!(q.kind == 4)) = false := (want_f rfl rfl (sg.slot 10 (sg.anc 10 rfl))).symm.trans hwant
      exact ⟨cF hG, fun _ h => h⟩
    · intro oo hop LL xx ac sg hwant
      cases Option.some.inj hop
      have hG : (!(q.kind == 4)) = false := (want_f rfl rfl (sg.slot 10 (sg.anc 10 rfl))).symm.trans hwant
      exact ⟨cF hG, fun _ h => h⟩
    · intro oo hop LL xx ac sg hwant
      cases Option.some.inj hop
      have hG : (!(q.kind == 4)) = false := (want_f rfl rfl (sg.slot 10 (sg.anc 10 rfl))).symm.trans hwant
      exact ⟨cF hG, fun _ h => h⟩
    · intro oo hop LL xx ac sg hwant
      cases Option.some.inj hop
      exact absurd ((want_f rfl rfl (sg.slot 4 (sg.anc 4 rfl))).symm.trans hwant) (by decide)
    · intro oo hop LL xx ac sg hwant
      cases Option.some.inj hop
      exact absurd ((want_f rfl rfl (sg.slot 4 (sg.anc 4 rfl))).symm.trans hwant) (by decide)
    · intro oo hop LL xx ac sg hwant
      cases Option.some.inj hop
      have hG : (!((q.kind == 4) || (q.kind == 5))) = false := (want_f rfl rfl (sg.slot 15 (sg.anc 15 rfl))).symm.trans hwant
      exact ⟨cF hG, fun _ h => h⟩
    · intro oo hop LL xx ac sg hwant
      cases Option.some.inj hop
      have hG : (!((q.kind == 4) || (q.kind == 5))) = false := (want_f rfl rfl (sg.slot 15 (sg.anc 15 rfl))).symm.trans hwant
      exact ⟨cF hG, fun _ h => h⟩
    · intro oo hop LL xx ac sg hwant
      cases Option.some.inj hop
      have hG : (!((q.kind == 4) || (q.kind == 5))) = false := (want_f rfl rfl (sg.slot 15 (sg.anc 15 rfl))).symm.trans hwant
      exact ⟨cF hG, fun _ h => h⟩
    · intro oo hop LL xx ac sg hwant
      cases Option.some.inj hop
      exact absurd ((want_f rfl rfl (sg.slot 4 (sg.anc 4 rfl))).symm.trans hwant) (by decide)
    · intro oo hop LL xx ac sg hwant
      cases Option.some.inj hop
      exact absurd ((want_f rfl rfl (sg.slot 4 (sg.anc 4 rfl))).symm.trans hwant) (by decide)
    · intro oo hop LL xx ac sg hwant
      cases Option.some.inj hop
      exact absurd ((want_f rfl rfl (sg.slot 22 (sg.anc 22 rfl))).symm.trans hwant) (by decide)
    · intro oo hop LL xx ac sg hwant
      cases Option.some.inj hop
      exact absurd ((want_f rfl rfl (sg.slot 22 (sg.anc 22 rfl))).symm.trans hwant) (by decide)
    · intro oo hop LL xx ac sg hwant
      cases Option.some.inj hop
      exact absurd ((want_f rfl rfl (sg.slot 22 (sg.anc 22 rfl))).symm.trans hwant) (by decide)
    · intro oo hop LL xx ac sg hwant
      cases Option.some.inj hop
      exact absurd ((want_f rfl rfl (sg.slot 22 (sg.anc 22 rfl))).symm.trans hwant) (by decide)
    · intro oo hop LL xx ac sg hwant
      cases Option.some.inj hop
      exact absurd ((want_f rfl rfl (sg.slot 22 (sg.anc 22 rfl))).symm.trans hwant) (by decide)
    · intro oo hop LL xx ac sg hwant
      cases Option.some.inj hop
      exact absurd ((want_f rfl rfl (sg.slot 22 (sg.anc 22 rfl))).symm.trans hwant) (by decide)
    · intro oo hop LL xx ac sg hwant
      cases Option.some.inj hop
      have hG : (f.kind == 0) = false := (want_t rfl rfl (sg.slot 28 (sg.anc 28 rfl))).symm.trans hwant
      exact ⟨cF hG, fun _ h => h⟩
    · intro oo hop LL xx ac sg hwant
      cases Option.some.inj hop
      have hG : (f.kind == 0) = false := (want_t rfl rfl (sg.slot 28 (sg.anc 28 rfl))).symm.trans hwant
      exact ⟨cF hG, fun _ h => h⟩
    · intro oo hop LL xx ac sg hwant
      cases Option.some.inj hop
      have hG : (f.kind == 0) = false := (want_t rfl rfl (sg.slot 28 (sg.anc 28 rfl))).symm.trans hwant
      exact ⟨cF hG, fun _ h => h⟩
    · intro oo hop LL xx ac sg hwant
      cases Option.some.inj hop
      exact absurd ((want_f rfl rfl (sg.slot 22 (sg.anc 22 rfl))).symm.trans hwant) (by decide)
    · intro oo hop LL xx ac sg hwant
      cases Option.some.inj hop
      exact absurd ((want_f rfl rfl (sg.slot 22 (sg.anc 22 rfl))).symm.trans hwant) (by decide)
    · intro oo hop LL xx ac sg hwant
      cases Option.some.inj hop
      have hG : (!((f.kind == 0) && (f.n == 0))) = false := (want_f rfl rfl (sg.slot 33 (sg.anc 33 rfl))).symm.trans hwant
      exact ⟨cF hG, fun _ h => h⟩
    · intro oo hop LL xx ac sg hwant
      cases Option.some.inj hop
      have hG : (!((f.kind == 0) && (f.n == 0))) = false := (want_f rfl rfl (sg.slot 33 (sg.anc 33 rfl))).symm.trans hwant
      exact ⟨cF hG, fun _ h => h⟩
    · intro oo hop LL xx ac sg hwant
      cases Option.some.inj hop
      have hG : (!((f.kind == 0) && (f.n == 0))) = false := (want_f rfl rfl (sg.slot 33 (sg.anc 33 rfl))).symm.trans hwant
      exact ⟨cF hG, fun _ h => h⟩
    · intro oo hop LL xx ac sg hwant
      cases Option.some.inj hop
      have hG : (!((f.kind == 0) && (f.n == 0))) = false := (want_f rfl rfl (sg.slot 33 (sg.anc 33 rfl))).symm.trans hwant
      exact ⟨cF hG, fun _ h => h⟩
    · intro oo hop LL xx ac sg hwant
      cases Option.some.inj hop
      have hG : (!((f.kind == 0) && (f.n == 0)) && (decide (0 < f.kind))) = false := (want_gt rfl rfl (sg.slot 37 (sg.anc 37 rfl))).symm.trans hwant
      exact ⟨cF hG, fun _ h => h⟩
    · intro oo hop LL xx ac sg hwant
      cases Option.some.inj hop
      have hG : (!((f.kind == 0) && (f.n == 0)) && (decide (0 < f.kind))) = false := (want_gt rfl rfl (sg.slot 37 (sg.anc 37 rfl))).symm.trans hwant
      exact ⟨cF hG, fun _ h => h⟩
    · intro oo hop LL xx ac sg hwant
      cases Option.some.inj hop
      have hG : (!((f.kind == 0) && (f.n == 0)) && (decide (0 < f.kind))) = false := (want_gt rfl rfl (sg.slot 37 (sg.anc 37 rfl))).symm.trans hwant
      exact ⟨cF hG, fun _ h => h⟩
    · intro oo hop LL xx ac sg hwant
      cases Option.some.inj hop
      have hG : (!((f.kind == 0) && (f.n == 0))) = false := (want_f rfl rfl (sg.slot 33 (sg.anc 33 rfl))).symm.trans hwant
      exact ⟨cF hG, fun _ h => h⟩
    · intro oo hop LL xx ac sg hwant
      cases Option.some.inj hop
      have hG : (!((f.kind == 0) && (f.n == 0))) = false := (want_f rfl rfl (sg.slot 33 (sg.anc 33 rfl))).symm.trans hwant
      exact ⟨cF hG, fun _ h => h⟩
    · intro oo hop LL xx ac sg hwant
      cases Option.some.inj hop
      have hG : (!((f.kind == 0) && (f.n == 0)) && ((decide (0 < f.kind)) && (decide (f.kind < 4)))) = false := (want_gt rfl rfl (sg.slot 42 (sg.anc 42 rfl))).symm.trans hwant
      exact ⟨cF hG, fun _ h => h⟩
    · intro oo hop LL xx ac sg hwant
      cases Option.some.inj hop
      have hG : (!((f.kind == 0) && (f.n == 0)) && ((decide (0 < f.kind)) && (decide (f.kind < 4)))) = false := (want_gt rfl rfl (sg.slot 42 (sg.anc 42 rfl))).symm.trans hwant
      exact ⟨cF hG, fun _ h => h⟩
    · intro oo hop LL xx ac sg hwant
      cases Option.some.inj hop
      have hG : (!((f.kind == 0) && (f.n == 0)) && ((decide (0 < f.kind)) && (decide (f.kind < 4)))) = false := (want_gt rfl rfl (sg.slot 42 (sg.anc 42 rfl))).symm.trans hwant
      exact ⟨cF hG, fun _ h => h⟩
    · intro oo hop LL xx ac sg hwant
      cases Option.some.inj hop
      have hG : (!((f.kind == 0) && (f.n == 0))) = false := (want_f rfl rfl (sg.slot 33 (sg.anc 33 rfl))).symm.trans hwant
      exact ⟨cF hG, fun _ h => h⟩
    · intro oo hop LL xx ac sg hwant
      cases Option.some.inj hop
      have hG : (!((f.kind == 0) && (f.n == 0))) = false := (want_f rfl rfl (sg.slot 33 (sg.anc 33 rfl))).symm.trans hwant
      exact ⟨cF hG, fun _ h => h⟩
    · intro oo hop LL xx ac sg hwant
      cases Option.some.inj hop
      have hG : (!((f.kind == 0) && (f.n == 0)) && (((decide (0 < f.kind)) && (decide (f.kind < 4))) && (decide (0 < f.n)))) = false := (want_gt rfl rfl (sg.slot 47 (sg.anc 47 rfl))).symm.trans hwant
      exact ⟨cF hG, fun _ h => h⟩
    · intro oo hop LL xx ac sg hwant
      cases Option.some.inj hop
      have hG : (!((f.kind == 0) && (f.n == 0)) && (((decide (0 < f.kind)) && (decide (f.kind < 4))) && (decide (0 < f.n)))) = false := (want_gt rfl rfl (sg.slot 47 (sg.anc 47 rfl))).symm.trans hwant
      exact ⟨cF hG, fun _ h => h⟩
    · intro oo hop LL xx ac sg hwant
      cases Option.some.inj hop
      have hG : (!((f.kind == 0) && (f.n == 0)) && (((decide (0 < f.kind)) && (decide (f.kind < 4))) && (decide (0 < f.n)))) = false := (want_gt rfl rfl (sg.slot 47 (sg.anc 47 rfl))).symm.trans hwant
      exact ⟨cF hG, fun _ h => h⟩
    · intro oo hop LL xx ac sg hwant
      cases Option.some.inj hop
      have hG : (!((f.kind == 0) && (f.n == 0))) = false := (want_f rfl rfl (sg.slot 33 (sg.anc 33 rfl))).symm.trans hwant
      exact ⟨cF hG, fun _ h => h⟩
    · intro oo hop LL xx ac sg hwant
      cases Option.some.inj hop
      exact absurd ((want_f rfl rfl (sg.slot 22 (sg.anc 22 rfl))).symm.trans hwant) (by decide)
    · intro oo hop LL xx ac sg hwant
      cases Option.some.inj hop
      exact absurd ((want_f rfl rfl (sg.slot 22 (sg.anc 22 rfl))).symm.trans hwant) (by decide)
  · intro xx ac1 wz hfr hsl hst
    exact hfin ac1 wz (hfr.size.trans hz) hfr.defers (fr_keep hfr [40, 41, 42, 43, 44, 45, 46, 47, 48, 49, 50, 51, 52, 53, 54, 55, 56, 57, 58, 59, 60, 61, 62, 63, 64, 65, 66, 67, 68, 69, 70, 71, 72, 73, 74, 75, 76, 77, 78, 79, 80, 81, 82, 83, 84, 85, 86, 87, 88, 89, 90, 91, 92, 93, 94] (by kernel_rfl)) (hsl 54 (by decide)) (Lib.hid hst)
set_option maxHeartbeats 32000000 in
set_option maxRecDepth 20000 in
theorem parts_w (q : ReqV) (s : ByteArray) (f : FilterV) (w : World) (hq : okReq q) : Calls Try.prog 6 #[.agg #[.int .i64 q.kind, .int .i64 q.seq, .int .i64 q.who, .int .i64 q.role, .int .u32 q.token, .int .u64 q.key, .int .i64 q.call.id, .int .i64 q.call.kind, .int .i64 q.call.src, .int .i64 q.call.dst, .int .i64 q.call.car, .int .i64 q.call.state, .int .i64 q.call.owner, .int .i64 q.call.born, .int .i64 q.id, .int .i64 q.car, .int .i64 q.mode, .int .i64 q.filter.kind, .int .i64 q.filter.n], .string s, .agg #[.int .i64 f.kind, .int .i64 f.n]] w fun e w' => e = .returned (.bool true) ∧ Off [] w w' := by
 have H := Lib.hid (Hp.start [] w)
 refine wStart (args := [.agg #[.int .i64 q.kind, .int .i64 q.seq, .int .i64 q.who, .int .i64 q.role, .int .u32 q.token, .int .u64 q.key, .int .i64 q.call.id, .int .i64 q.call.kind, .int .i64 q.call.src, .int .i64 q.call.dst, .int .i64 q.call.car, .int .i64 q.call.state, .int .i64 q.call.owner, .int .i64 q.call.born, .int .i64 q.id, .int .i64 q.car, .int .i64 q.mode, .int .i64 q.filter.kind, .int .i64 q.filter.n], .string s, .agg #[.int .i64 f.kind, .int .i64 f.n]]) Try.func6 rfl rfl rfl H ?_
 clear H
 show Wk 122 _ _ [(0, .agg #[.int .i64 q.kind, .int .i64 q.seq, .int .i64 q.who, .int .i64 q.role, .int .u32 q.token, .int .u64 q.key, .int .i64 q.call.id, .int .i64 q.call.kind, .int .i64 q.call.src, .int .i64 q.call.dst, .int .i64 q.call.car, .int .i64 q.call.state, .int .i64 q.call.owner, .int .i64 q.call.born, .int .i64 q.id, .int .i64 q.car, .int .i64 q.mode, .int .i64 q.filter.kind, .int .i64 q.filter.n]), (1, .string s), (2, .agg #[.int .i64 f.kind, .int .i64 f.n])] _ _
 have hib1 : 0 ≤ idxB s 1 ∧ idxB s 1 ≤ 255 := idx_le s 1
 have hib2 : 0 ≤ idxB s 2 ∧ idxB s 2 ≤ 255 := idx_le s 2
 have hib3 : 0 ≤ idxB s 3 ∧ idxB s 3 ≤ 255 := idx_le s 3
 have hib4 : 0 ≤ idxB s 4 ∧ idxB s 4 ≤ 255 := idx_le s 4
 have hwi1 : IntKind.i64.wrap (idxB s 1) = idxB s 1 := IntWalk.i64_in _ (by omega)
 have hwi2 : IntKind.i64.wrap (idxB s 2) = idxB s 2 := IntWalk.i64_in _ (by omega)
 have hwi3 : IntKind.i64.wrap (idxB s 3) = idxB s 3 := IntWalk.i64_in _ (by omega)
 have hwi4 : IntKind.i64.wrap (idxB s 4) = idxB s 4 := IntWalk.i64_in _ (by omega)
 refine wSeqK fun KK1 hK1 => ?_
 refine wReg ?_
 refine wBx rfl rfl rfl fun b3 => ?_
 refine wBx rfl rfl rfl fun b5 => ?_
 refine p_parts_w rfl ?_
 refine wN ?_
 refine tN (wKK hK1 ?_)
 refine wSeqK fun KK2 hK2 => ?_
 refine wSeqK fun KK3 hK3 => ?_
 refine wReg ?_
 refine wQ (l := []) Try.func11 rfl (by kernel_rfl) (.bool true) (fun wc H => awake14 wc) rfl rfl rfl rfl ?_
 refine p_parts_w rfl ?_
 refine wN ?_
 refine tN (wKK hK3 ?_)
 refine wCf rfl ?_
 refine wSk ?_
 refine tN (wKK hK2 ?_)
 refine wSeqK fun KK4 hK4 => ?_
 refine wSeqK fun KK5 hK5 => ?_
 refine wReg ?_
 refine p_parts_w rfl ?_
 refine wE (.int .i64 s.size) rfl rfl rfl (fun aa ww hs _ => by have e14 := hs 14 _ rfl; have g14 := gt_of e14; simp only [execOp]; go_simp <;> omega) ?_
 refine p_parts_w rfl ?_
 refine wN ?_
 refine tN (wKK hK5 ?_)
 refine wCond (E := decide (256 < (s.size : Int))) rfl (fun z1 => ?_) (fun z1 => ?_)
 · skip
   have z1d : 256 < (s.size : Int) := of_decide_eq_true z1
   refine wSeqK fun KK6 hK6 => ?_
   refine wReg ?_
   refine p_parts_w rfl ?_
   refine wN ?_
   refine tN (wKK hK6 ?_)
   refine wRet ?_
   refine tR ?_
   exact wR1 rfl rfl (fun ww H => ⟨rfl, H.out.off⟩)
 · skip
   have z1d : ¬ (256 < (s.size : Int)) := of_decide_eq_false z1
   refine wSk ?_
   refine tN (wKK hK4 ?_)
   refine wSeqK fun KK7 hK7 => ?_
   refine wReg ?_
   refine p_parts_w rfl ?_
   refine wN ?_
   refine tN (wKK hK7 ?_)
   refine wSeqK fun KK8 hK8 => ?_
   refine wSeqK fun KK9 hK9 => ?_
   refine wReg ?_
   refine p_parts_w rfl ?_
   refine wE (.int .i64 s.size) rfl rfl rfl (fun aa ww hs _ => by have e17 := hs 17 _ rfl; have g17 := gt_of e17; simp only [execOp]; go_simp <;> omega) ?_
   refine p_parts_w rfl ?_
   refine wN ?_
   refine tN (wKK hK9 ?_)
   refine wCond (E := decide (5 ≤ (s.size : Int))) rfl (fun z2 => ?_) (fun z2 => ?_)
   · skip
     have z2d : 5 ≤ (s.size : Int) := of_decide_eq_true z2
     refine wSeqK fun KK10 hK10 => ?_
     intro aa ww nn dd hs H
     refine parts_w_r7 q s f hq hib1 hib2 hib3 hib4 hwi1 hwi2 hwi3 hwi4 b3 b5 z1d z2d H aa nn (hs 1 _ rfl) ?_
     intro ab wv nn2 dd2 kp o7 H2
     refine wIn nn2 (dd2.trans dd) (Sat.cons (Sat.cons (Sat.cons (Sat.cons (Sat.cons (Sat.cons (Sat.cons (Sat.cons (Sat.cons (Sat.cons (sat_nil ab) ((kp 19 rfl).trans (hs 19 _ rfl))) ((kp 16 rfl).trans (hs 16 _ rfl))) ((kp 13 rfl).trans (hs 13 _ rfl))) ((kp 6 rfl).trans (hs 6 _ rfl))) ((kp 5 rfl).trans (hs 5 _ rfl))) ((kp 3 rfl).trans (hs 3 _ rfl))) ((kp 2 rfl).trans (hs 2 _ rfl))) ((kp 1 rfl).trans (hs 1 _ rfl))) ((kp 0 rfl).trans (hs 0 _ rfl))) o7) H2 ?_
     clear hs H kp H2 dd dd2 nn nn2 o7
     refine tN (wKK hK10 ?_)
     refine wSeqK fun KK11 hK11 => ?_
     refine wReg ?_
     iterate 2 refine p_parts_w rfl ?_
     refine wN ?_
     refine tN (wKK hK11 ?_)
     refine wCond (E := decide (1073741824 < (((((idxB s 1) * 16777216) + ((idxB s 2) * 65536)) + ((idxB s 3) * 256)) + (idxB s 4)))) rfl (fun z3 => ?_) (fun z3 => ?_)
     · skip
       have z3d : 1073741824 < (((((idxB s 1) * 16777216) + ((idxB s 2) * 65536)) + ((idxB s 3) * 256)) + (idxB s 4)) := of_decide_eq_true z3
       refine wReg ?_
       refine p_parts_w rfl ?_
       refine wN ?_
       refine tN (wKK hK8 ?_)
       refine wSeqK fun KK12 hK12 => ?_
       refine wSeqK fun KK13 hK13 => ?_
       intro aa ww nn dd hs H
       have hsq : ((seqV s) != 0) = false := by rw [seq_big (of_decide_eq_true z2) (of_decide_eq_true z3)]; rfl
       have hwr : ((writesV q) == (((q.kind == 4) || (q.kind == 5)) || (q.kind == 10))) = true := writes_eq q
       have hfl : ((isFilterV f) == (((f.kind == 0) && (f.n == 0)) || ((((decide (0 < f.kind)) && (decide (f.kind < 4))) && (decide (0 < f.n))) && (decide (f.n ≤ 1073741824))))) = true := fil_eq f
       refine wIn nn dd hs H ?_
       intro aa ww nn dd hs H
       refine parts_w_r10 q s f hq hib1 hib2 hib3 hib4 hwi1 hwi2 hwi3 hwi4 b3 b5 z1d z2d z3d hsq hwr hfl H aa nn (hs 1 _ rfl) (hs 3 _ rfl) (hs 5 _ rfl) (hs 7 _ rfl) ?_
       intro ab wv nn2 dd2 kp o94 H2
       refine wIn nn2 (dd2.trans dd) (Sat.cons (Sat.cons (Sat.cons (Sat.cons (Sat.cons (Sat.cons (Sat.cons (Sat.cons (Sat.cons (Sat.cons (Sat.cons (Sat.cons (sat_nil ab) ((kp 39 rfl).trans (hs 39 _ rfl))) ((kp 19 rfl).trans (hs 19 _ rfl))) ((kp 16 rfl).trans (hs 16 _ rfl))) ((kp 13 rfl).trans (hs 13 _ rfl))) ((kp 7 rfl).trans (hs 7 _ rfl))) ((kp 6 rfl).trans (hs 6 _ rfl))) ((kp 5 rfl).trans (hs 5 _ rfl))) ((kp 3 rfl).trans (hs 3 _ rfl))) ((kp 2 rfl).trans (hs 2 _ rfl))) ((kp 1 rfl).trans (hs 1 _ rfl))) ((kp 0 rfl).trans (hs 0 _ rfl))) o94) H2 ?_
       clear hs H kp H2 dd dd2 nn nn2 o94
       refine tN (wKK hK13 ?_)
       refine wCf rfl ?_
       refine wSk ?_
       refine tN (wKK hK12 ?_)
       refine wSeqK fun KK14 hK14 => ?_
       rcases Bool.eq_false_or_eq_true (formB q) with y4 | y4
       · skip
         rcases Bool.eq_false_or_eq_true (goodR (numsQ q)) with y5 | y5
         · skip
           intro aa ww nn dd hs H
           have hak : ((askV q).toList == (encR ([(numsQ q).getD 0 0, 0, (numsQ q).getD 2 0, (numsQ q).getD 3 0, (numsQ q).getD 4 0, 0, 0, (numsQ q).getD 7 0, (numsQ q).getD 8 0, (numsQ q).getD 9 0, (numsQ q).getD 10 0, (numsQ q).getD 11 0, (numsQ q).getD 12 0, (numsQ q).getD 13 0, (numsQ q).getD 14 0, (numsQ q).getD 15 0])).toList) = true := by rw [ask_ref hq y4 y5]; simp
           refine wIn nn dd hs H ?_
           refine wReg ?_
           refine wLr rfl tymsg_Request 1 rfl [.int .i64 q.kind, .int .i64 q.seq, .int .i64 q.who, .int .i64 q.role, .int .u32 q.token, .int .u64 q.key, .int .i64 q.call.id, .int .i64 q.call.kind, .int .i64 q.call.src, .int .i64 q.call.dst, .int .i64 q.call.car, .int .i64 q.call.state, .int .i64 q.call.owner, .int .i64 q.call.born, .int .i64 q.id, .int .i64 q.car, .int .i64 q.mode, .int .i64 q.filter.kind, .int .i64 q.filter.n] rfl rfl ?_
           refine wQ (l := [.agg #[.int .i64 q.kind, .int .i64 q.seq, .int .i64 q.who, .int .i64 q.role, .int .u32 q.token, .int .u64 q.key, .int .i64 q.call.id, .int .i64 q.call.kind, .int .i64 q.call.src, .int .i64 q.call.dst, .int .i64 q.call.car, .int .i64 q.call.state, .int .i64 q.call.owner, .int .i64 q.call.born, .int .i64 q.id, .int .i64 q.car, .int .i64 q.mode, .int .i64 q.filter.kind, .int .i64 q.filter.n]]) Try.func12 rfl (by kernel_rfl) (.tuple #[.agg #[.int .i64 ((numsQ q).getD 0 0), .int .i64 ((numsQ q).getD 1 0), .int .i64 ((numsQ q).getD 2 0), .int .i64 ((numsQ q).getD 3 0), .int .i64 ((numsQ q).getD 4 0), .int .i64 ((numsQ q).getD 5 0), .int .i64 ((numsQ q).getD 6 0), .int .i64 ((numsQ q).getD 7 0), .int .i64 ((numsQ q).getD 8 0), .int .i64 ((numsQ q).getD 9 0), .int .i64 ((numsQ q).getD 10 0), .int .i64 ((numsQ q).getD 11 0), .int .i64 ((numsQ q).getD 12 0), .int .i64 ((numsQ q).getD 13 0), .int .i64 ((numsQ q).getD 14 0), .int .i64 ((numsQ q).getD 15 0)], .bool true]) (fun wc H => by have h := formC q wc hq; rw [y4] at h; exact h) rfl rfl rfl rfl ?_
           iterate 3 refine p_parts_w rfl ?_
           refine wAl rfl rfl tyhoistwayref14_Request fun b8 => ?_
           refine wSr rfl tyhoistwayref14_Request 0 rfl rfl rfl rfl [.int .i64 ((numsQ q).getD 0 0), .int .i64 ((numsQ q).getD 1 0), .int .i64 ((numsQ q).getD 2 0), .int .i64 ((numsQ q).getD 3 0), .int .i64 ((numsQ q).getD 4 0), .int .i64 ((numsQ q).getD 5 0), .int .i64 ((numsQ q).getD 6 0), .int .i64 ((numsQ q).getD 7 0), .int .i64 ((numsQ q).getD 8 0), .int .i64 ((numsQ q).getD 9 0), .int .i64 ((numsQ q).getD 10 0), .int .i64 ((numsQ q).getD 11 0), .int .i64 ((numsQ q).getD 12 0), .int .i64 ((numsQ q).getD 13 0), .int .i64 ((numsQ q).getD 14 0), .int .i64 ((numsQ q).getD 15 0)] (by first | rfl | (simp only [spl]; rfl)) ?_
           refine p_parts_w rfl ?_
           refine wN ?_
           refine tN (wKK hK14 ?_)
           refine wSeqK fun KK15 hK15 => ?_
           refine wSeqK fun KK16 hK16 => ?_
           refine wReg ?_
           iterate 3 refine p_parts_w rfl ?_
           refine wLr rfl tyhoistwayref14_Request 0 rfl [.int .i64 ((numsQ q).getD 0 0), .int .i64 ((numsQ q).getD 1 0), .int .i64 ((numsQ q).getD 2 0), .int .i64 ((numsQ q).getD 3 0), .int .i64 ((numsQ q).getD 4 0), .int .i64 ((numsQ q).getD 5 0), .int .i64 ((numsQ q).getD 6 0), .int .i64 ((numsQ q).getD 7 0), .int .i64 ((numsQ q).getD 8 0), .int .i64 ((numsQ q).getD 9 0), .int .i64 ((numsQ q).getD 10 0), .int .i64 ((numsQ q).getD 11 0), .int .i64 ((numsQ q).getD 12 0), .int .i64 ((numsQ q).getD 13 0), .int .i64 ((numsQ q).getD 14 0), .int .i64 ((numsQ q).getD 15 0)] rfl rfl ?_
           refine wQ (l := [.agg #[.int .i64 ((numsQ q).getD 0 0), .int .i64 ((numsQ q).getD 1 0), .int .i64 ((numsQ q).getD 2 0), .int .i64 ((numsQ q).getD 3 0), .int .i64 ((numsQ q).getD 4 0), .int .i64 ((numsQ q).getD 5 0), .int .i64 ((numsQ q).getD 6 0), .int .i64 ((numsQ q).getD 7 0), .int .i64 ((numsQ q).getD 8 0), .int .i64 ((numsQ q).getD 9 0), .int .i64 ((numsQ q).getD 10 0), .int .i64 ((numsQ q).getD 11 0), .int .i64 ((numsQ q).getD 12 0), .int .i64 ((numsQ q).getD 13 0), .int .i64 ((numsQ q).getD 14 0), .int .i64 ((numsQ q).getD 15 0)]]) Try.func26 rfl (by kernel_rfl) (.bool true) (fun wc H => by have h := goodC (numsQ q) wc; rw [y5] at h; exact h) rfl rfl rfl rfl ?_
           iterate 2 refine p_parts_w rfl ?_
           refine wN ?_
           refine tN (wKK hK16 ?_)
           refine wCf rfl ?_
           refine wSk ?_
           refine tN (wKK hK15 ?_)
           refine wSeqK fun KK17 hK17 => ?_
           refine wReg ?_
           refine wE (.pointer (some ⟨b8, 1, none⟩)) rfl rfl rfl (fun aa ww hs _ => by have e8 := hs 8 _ rfl; have g8 := gt_of e8; simp only [execOp]; go_simp <;> omega) ?_
           refine wSt rfl tyint 0 rfl rfl rfl rfl ?_
           refine wN ?_
           refine tN (wKK hK17 ?_)
           refine wSeqK fun KK18 hK18 => ?_
           refine wReg ?_
           refine wE (.pointer (some ⟨b8, 5, none⟩)) rfl rfl rfl (fun aa ww hs _ => by have e8 := hs 8 _ rfl; have g8 := gt_of e8; simp only [execOp]; go_simp <;> omega) ?_
           refine wSt rfl tyint 0 rfl rfl rfl rfl ?_
           refine wN ?_
           refine tN (wKK hK18 ?_)
           refine wSeqK fun KK19 hK19 => ?_
           refine wReg ?_
           refine wE (.pointer (some ⟨b8, 6, none⟩)) rfl rfl rfl (fun aa ww hs _ => by have e8 := hs 8 _ rfl; have g8 := gt_of e8; simp only [execOp]; go_simp <;> omega) ?_
           refine wSt rfl tyint 0 rfl rfl rfl rfl ?_
           refine wN ?_
           refine tN (wKK hK19 ?_)
           refine wSeqK fun KK20 hK20 => ?_
           refine wReg ?_
           refine wLr rfl tyhoistwayref14_Request 0 rfl [.int .i64 ((numsQ q).getD 0 0), .int .i64 0, .int .i64 ((numsQ q).getD 2 0), .int .i64 ((numsQ q).getD 3 0), .int .i64 ((numsQ q).getD 4 0), .int .i64 0, .int .i64 0, .int .i64 ((numsQ q).getD 7 0), .int .i64 ((numsQ q).getD 8 0), .int .i64 ((numsQ q).getD 9 0), .int .i64 ((numsQ q).getD 10 0), .int .i64 ((numsQ q).getD 11 0), .int .i64 ((numsQ q).getD 12 0), .int .i64 ((numsQ q).getD 13 0), .int .i64 ((numsQ q).getD 14 0), .int .i64 ((numsQ q).getD 15 0)] rfl rfl ?_
           refine wQ (l := [.agg #[.int .i64 ((numsQ q).getD 0 0), .int .i64 0, .int .i64 ((numsQ q).getD 2 0), .int .i64 ((numsQ q).getD 3 0), .int .i64 ((numsQ q).getD 4 0), .int .i64 0, .int .i64 0, .int .i64 ((numsQ q).getD 7 0), .int .i64 ((numsQ q).getD 8 0), .int .i64 ((numsQ q).getD 9 0), .int .i64 ((numsQ q).getD 10 0), .int .i64 ((numsQ q).getD 11 0), .int .i64 ((numsQ q).getD 12 0), .int .i64 ((numsQ q).getD 13 0), .int .i64 ((numsQ q).getD 14 0), .int .i64 ((numsQ q).getD 15 0)]]) Try.func13 rfl (by kernel_rfl) (.tuple #[.string (encR ([(numsQ q).getD 0 0, 0, (numsQ q).getD 2 0, (numsQ q).getD 3 0, (numsQ q).getD 4 0, 0, 0, (numsQ q).getD 7 0, (numsQ q).getD 8 0, (numsQ q).getD 9 0, (numsQ q).getD 10 0, (numsQ q).getD 11 0, (numsQ q).getD 12 0, (numsQ q).getD 13 0, (numsQ q).getD 14 0, (numsQ q).getD 15 0])), .bool (goodR ([(numsQ q).getD 0 0, 0, (numsQ q).getD 2 0, (numsQ q).getD 3 0, (numsQ q).getD 4 0, 0, 0, (numsQ q).getD 7 0, (numsQ q).getD 8 0, (numsQ q).getD 9 0, (numsQ q).getD 10 0, (numsQ q).getD 11 0, (numsQ q).getD 12 0, (numsQ q).getD 13 0, (numsQ q).getD 14 0, (numsQ q).getD 15 0]))]) (fun wc H => refEncC ([(numsQ q).getD 0 0, 0, (numsQ q).getD 2 0, (numsQ q).getD 3 0, (numsQ q).getD 4 0, 0, 0, (numsQ q).getD 7 0, (numsQ q).getD 8 0, (numsQ q).getD 9 0, (numsQ q).getD 10 0, (numsQ q).getD 11 0, (numsQ q).getD 12 0, (numsQ q).getD 13 0, (numsQ q).getD 14 0, (numsQ q).getD 15 0]) wc) rfl rfl rfl rfl ?_
           iterate 5 refine p_parts_w rfl ?_
           refine wN ?_
           refine tN (wKK hK20 ?_)
           refine wSeqK fun KK21 hK21 => ?_
           refine wReg ?_
           refine wLr rfl tymsg_Request 2 rfl [.int .i64 q.kind, .int .i64 q.seq, .int .i64 q.who, .int .i64 q.role, .int .u32 q.token, .int .u64 q.key, .int .i64 q.call.id, .int .i64 q.call.kind, .int .i64 q.call.src, .int .i64 q.call.dst, .int .i64 q.call.car, .int .i64 q.call.state, .int .i64 q.call.owner, .int .i64 q.call.born, .int .i64 q.id, .int .i64 q.car, .int .i64 q.mode, .int .i64 q.filter.kind, .int .i64 q.filter.n] rfl rfl ?_
           refine wQ (l := [.agg #[.int .i64 q.kind, .int .i64 q.seq, .int .i64 q.who, .int .i64 q.role, .int .u32 q.token, .int .u64 q.key, .int .i64 q.call.id, .int .i64 q.call.kind, .int .i64 q.call.src, .int .i64 q.call.dst, .int .i64 q.call.car, .int .i64 q.call.state, .int .i64 q.call.owner, .int .i64 q.call.born, .int .i64 q.id, .int .i64 q.car, .int .i64 q.mode, .int .i64 q.filter.kind, .int .i64 q.filter.n]]) Try.func27 rfl (by kernel_rfl) (.string (askV q)) (fun wc H => askC q (Lib.hid hq) wc) rfl rfl rfl rfl ?_
           refine p_parts_w rfl ?_
           refine wE (.bool true) rfl rfl rfl (fun aa ww hs _ => by exact exec_seq (c := true) rfl (hs _ _ rfl) (hs _ _ rfl) (by first | exact hak | (rw [ByteArray.toList_eq]; exact hak) | (simpa [ByteArray.toList_eq] using hak))) ?_
           refine p_parts_w rfl ?_
           refine wN ?_
           refine tN (wKK hK21 ?_)
           refine wRet ?_
           exact wR1 rfl rfl (fun ww H => ⟨rfl, H.out.off⟩)
         · skip
           intro aa ww nn dd hs H
           have hak : ((askV q).toList.isEmpty) = true := by rw [ask_noF hq (.inr y5), ByteArray.toList_eq]; rfl
           refine wIn nn dd hs H ?_
           refine wReg ?_
           refine wLr rfl tymsg_Request 1 rfl [.int .i64 q.kind, .int .i64 q.seq, .int .i64 q.who, .int .i64 q.role, .int .u32 q.token, .int .u64 q.key, .int .i64 q.call.id, .int .i64 q.call.kind, .int .i64 q.call.src, .int .i64 q.call.dst, .int .i64 q.call.car, .int .i64 q.call.state, .int .i64 q.call.owner, .int .i64 q.call.born, .int .i64 q.id, .int .i64 q.car, .int .i64 q.mode, .int .i64 q.filter.kind, .int .i64 q.filter.n] rfl rfl ?_
           refine wQ (l := [.agg #[.int .i64 q.kind, .int .i64 q.seq, .int .i64 q.who, .int .i64 q.role, .int .u32 q.token, .int .u64 q.key, .int .i64 q.call.id, .int .i64 q.call.kind, .int .i64 q.call.src, .int .i64 q.call.dst, .int .i64 q.call.car, .int .i64 q.call.state, .int .i64 q.call.owner, .int .i64 q.call.born, .int .i64 q.id, .int .i64 q.car, .int .i64 q.mode, .int .i64 q.filter.kind, .int .i64 q.filter.n]]) Try.func12 rfl (by kernel_rfl) (.tuple #[.agg #[.int .i64 ((numsQ q).getD 0 0), .int .i64 ((numsQ q).getD 1 0), .int .i64 ((numsQ q).getD 2 0), .int .i64 ((numsQ q).getD 3 0), .int .i64 ((numsQ q).getD 4 0), .int .i64 ((numsQ q).getD 5 0), .int .i64 ((numsQ q).getD 6 0), .int .i64 ((numsQ q).getD 7 0), .int .i64 ((numsQ q).getD 8 0), .int .i64 ((numsQ q).getD 9 0), .int .i64 ((numsQ q).getD 10 0), .int .i64 ((numsQ q).getD 11 0), .int .i64 ((numsQ q).getD 12 0), .int .i64 ((numsQ q).getD 13 0), .int .i64 ((numsQ q).getD 14 0), .int .i64 ((numsQ q).getD 15 0)], .bool true]) (fun wc H => by have h := formC q wc hq; rw [y4] at h; exact h) rfl rfl rfl rfl ?_
           iterate 3 refine p_parts_w rfl ?_
           refine wAl rfl rfl tyhoistwayref14_Request fun b8 => ?_
           refine wSr rfl tyhoistwayref14_Request 0 rfl rfl rfl rfl [.int .i64 ((numsQ q).getD 0 0), .int .i64 ((numsQ q).getD 1 0), .int .i64 ((numsQ q).getD 2 0), .int .i64 ((numsQ q).getD 3 0), .int .i64 ((numsQ q).getD 4 0), .int .i64 ((numsQ q).getD 5 0), .int .i64 ((numsQ q).getD 6 0), .int .i64 ((numsQ q).getD 7 0), .int .i64 ((numsQ q).getD 8 0), .int .i64 ((numsQ q).getD 9 0), .int .i64 ((numsQ q).getD 10 0), .int .i64 ((numsQ q).getD 11 0), .int .i64 ((numsQ q).getD 12 0), .int .i64 ((numsQ q).getD 13 0), .int .i64 ((numsQ q).getD 14 0), .int .i64 ((numsQ q).getD 15 0)] (by first | rfl | (simp only [spl]; rfl)) ?_
           refine p_parts_w rfl ?_
           refine wN ?_
           refine tN (wKK hK14 ?_)
           refine wSeqK fun KK22 hK22 => ?_
           refine wSeqK fun KK23 hK23 => ?_
           refine wReg ?_
           iterate 3 refine p_parts_w rfl ?_
           refine wLr rfl tyhoistwayref14_Request 0 rfl [.int .i64 ((numsQ q).getD 0 0), .int .i64 ((numsQ q).getD 1 0), .int .i64 ((numsQ q).getD 2 0), .int .i64 ((numsQ q).getD 3 0), .int .i64 ((numsQ q).getD 4 0), .int .i64 ((numsQ q).getD 5 0), .int .i64 ((numsQ q).getD 6 0), .int .i64 ((numsQ q).getD 7 0), .int .i64 ((numsQ q).getD 8 0), .int .i64 ((numsQ q).getD 9 0), .int .i64 ((numsQ q).getD 10 0), .int .i64 ((numsQ q).getD 11 0), .int .i64 ((numsQ q).getD 12 0), .int .i64 ((numsQ q).getD 13 0), .int .i64 ((numsQ q).getD 14 0), .int .i64 ((numsQ q).getD 15 0)] rfl rfl ?_
           refine wQ (l := [.agg #[.int .i64 ((numsQ q).getD 0 0), .int .i64 ((numsQ q).getD 1 0), .int .i64 ((numsQ q).getD 2 0), .int .i64 ((numsQ q).getD 3 0), .int .i64 ((numsQ q).getD 4 0), .int .i64 ((numsQ q).getD 5 0), .int .i64 ((numsQ q).getD 6 0), .int .i64 ((numsQ q).getD 7 0), .int .i64 ((numsQ q).getD 8 0), .int .i64 ((numsQ q).getD 9 0), .int .i64 ((numsQ q).getD 10 0), .int .i64 ((numsQ q).getD 11 0), .int .i64 ((numsQ q).getD 12 0), .int .i64 ((numsQ q).getD 13 0), .int .i64 ((numsQ q).getD 14 0), .int .i64 ((numsQ q).getD 15 0)]]) Try.func26 rfl (by kernel_rfl) (.bool false) (fun wc H => by have h := goodC (numsQ q) wc; rw [y5] at h; exact h) rfl rfl rfl rfl ?_
           iterate 2 refine p_parts_w rfl ?_
           refine wN ?_
           refine tN (wKK hK23 ?_)
           refine wCt rfl ?_
           refine wSeqK fun KK24 hK24 => ?_
           refine wReg ?_
           refine wLr rfl tymsg_Request 2 rfl [.int .i64 q.kind, .int .i64 q.seq, .int .i64 q.who, .int .i64 q.role, .int .u32 q.token, .int .u64 q.key, .int .i64 q.call.id, .int .i64 q.call.kind, .int .i64 q.call.src, .int .i64 q.call.dst, .int .i64 q.call.car, .int .i64 q.call.state, .int .i64 q.call.owner, .int .i64 q.call.born, .int .i64 q.id, .int .i64 q.car, .int .i64 q.mode, .int .i64 q.filter.kind, .int .i64 q.filter.n] rfl rfl ?_
           refine wQ (l := [.agg #[.int .i64 q.kind, .int .i64 q.seq, .int .i64 q.who, .int .i64 q.role, .int .u32 q.token, .int .u64 q.key, .int .i64 q.call.id, .int .i64 q.call.kind, .int .i64 q.call.src, .int .i64 q.call.dst, .int .i64 q.call.car, .int .i64 q.call.state, .int .i64 q.call.owner, .int .i64 q.call.born, .int .i64 q.id, .int .i64 q.car, .int .i64 q.mode, .int .i64 q.filter.kind, .int .i64 q.filter.n]]) Try.func27 rfl (by kernel_rfl) (.string (askV q)) (fun wc H => askC q (Lib.hid hq) wc) rfl rfl rfl rfl ?_
           refine wE (.bool true) rfl rfl rfl (fun aa ww hs _ => by exact exec_seq (c := true) rfl (hs _ _ rfl) (rfl) (by first | exact hak | (rw [ByteArray.toList_eq]; exact hak) | (simpa [ByteArray.toList_eq] using hak))) ?_
           refine p_parts_w rfl ?_
           refine wN ?_
           refine tN (wKK hK24 ?_)
           refine wRet ?_
           refine tR ?_
           exact wR1 rfl rfl (fun ww H => ⟨rfl, H.out.off⟩)
       · skip
         intro aa ww nn dd hs H
         have hak : ((askV q).toList.isEmpty) = true := by rw [ask_noF hq (.inl y4), ByteArray.toList_eq]; rfl
         refine wIn nn dd hs H ?_
         refine wReg ?_
         refine wLr rfl tymsg_Request 1 rfl [.int .i64 q.kind, .int .i64 q.seq, .int .i64 q.who, .int .i64 q.role, .int .u32 q.token, .int .u64 q.key, .int .i64 q.call.id, .int .i64 q.call.kind, .int .i64 q.call.src, .int .i64 q.call.dst, .int .i64 q.call.car, .int .i64 q.call.state, .int .i64 q.call.owner, .int .i64 q.call.born, .int .i64 q.id, .int .i64 q.car, .int .i64 q.mode, .int .i64 q.filter.kind, .int .i64 q.filter.n] rfl rfl ?_
         refine wQ (l := [.agg #[.int .i64 q.kind, .int .i64 q.seq, .int .i64 q.who, .int .i64 q.role, .int .u32 q.token, .int .u64 q.key, .int .i64 q.call.id, .int .i64 q.call.kind, .int .i64 q.call.src, .int .i64 q.call.dst, .int .i64 q.call.car, .int .i64 q.call.state, .int .i64 q.call.owner, .int .i64 q.call.born, .int .i64 q.id, .int .i64 q.car, .int .i64 q.mode, .int .i64 q.filter.kind, .int .i64 q.filter.n]]) Try.func12 rfl (by kernel_rfl) (.tuple #[.agg #[.int .i64 ((numsQ q).getD 0 0), .int .i64 ((numsQ q).getD 1 0), .int .i64 ((numsQ q).getD 2 0), .int .i64 ((numsQ q).getD 3 0), .int .i64 ((numsQ q).getD 4 0), .int .i64 ((numsQ q).getD 5 0), .int .i64 ((numsQ q).getD 6 0), .int .i64 ((numsQ q).getD 7 0), .int .i64 ((numsQ q).getD 8 0), .int .i64 ((numsQ q).getD 9 0), .int .i64 ((numsQ q).getD 10 0), .int .i64 ((numsQ q).getD 11 0), .int .i64 ((numsQ q).getD 12 0), .int .i64 ((numsQ q).getD 13 0), .int .i64 ((numsQ q).getD 14 0), .int .i64 ((numsQ q).getD 15 0)], .bool false]) (fun wc H => by have h := formC q wc hq; rw [y4] at h; exact h) rfl rfl rfl rfl ?_
         iterate 3 refine p_parts_w rfl ?_
         refine wAl rfl rfl tyhoistwayref14_Request fun b8 => ?_
         refine wSr rfl tyhoistwayref14_Request 0 rfl rfl rfl rfl [.int .i64 ((numsQ q).getD 0 0), .int .i64 ((numsQ q).getD 1 0), .int .i64 ((numsQ q).getD 2 0), .int .i64 ((numsQ q).getD 3 0), .int .i64 ((numsQ q).getD 4 0), .int .i64 ((numsQ q).getD 5 0), .int .i64 ((numsQ q).getD 6 0), .int .i64 ((numsQ q).getD 7 0), .int .i64 ((numsQ q).getD 8 0), .int .i64 ((numsQ q).getD 9 0), .int .i64 ((numsQ q).getD 10 0), .int .i64 ((numsQ q).getD 11 0), .int .i64 ((numsQ q).getD 12 0), .int .i64 ((numsQ q).getD 13 0), .int .i64 ((numsQ q).getD 14 0), .int .i64 ((numsQ q).getD 15 0)] (by first | rfl | (simp only [spl]; rfl)) ?_
         refine p_parts_w rfl ?_
         refine wN ?_
         refine tN (wKK hK14 ?_)
         refine wSeqK fun KK25 hK25 => ?_
         refine wSeqK fun KK26 hK26 => ?_
         refine wReg ?_
         iterate 7 refine p_parts_w rfl ?_
         refine wN ?_
         refine tN (wKK hK26 ?_)
         refine wCt rfl ?_
         refine wSeqK fun KK27 hK27 => ?_
         refine wReg ?_
         refine wLr rfl tymsg_Request 2 rfl [.int .i64 q.kind, .int .i64 q.seq, .int .i64 q.who, .int .i64 q.role, .int .u32 q.token, .int .u64 q.key, .int .i64 q.call.id, .int .i64 q.call.kind, .int .i64 q.call.src, .int .i64 q.call.dst, .int .i64 q.call.car, .int .i64 q.call.state, .int .i64 q.call.owner, .int .i64 q.call.born, .int .i64 q.id, .int .i64 q.car, .int .i64 q.mode, .int .i64 q.filter.kind, .int .i64 q.filter.n] rfl rfl ?_
         refine wQ (l := [.agg #[.int .i64 q.kind, .int .i64 q.seq, .int .i64 q.who, .int .i64 q.role, .int .u32 q.token, .int .u64 q.key, .int .i64 q.call.id, .int .i64 q.call.kind, .int .i64 q.call.src, .int .i64 q.call.dst, .int .i64 q.call.car, .int .i64 q.call.state, .int .i64 q.call.owner, .int .i64 q.call.born, .int .i64 q.id, .int .i64 q.car, .int .i64 q.mode, .int .i64 q.filter.kind, .int .i64 q.filter.n]]) Try.func27 rfl (by kernel_rfl) (.string (askV q)) (fun wc H => askC q (Lib.hid hq) wc) rfl rfl rfl rfl ?_
         refine wE (.bool true) rfl rfl rfl (fun aa ww hs _ => by exact exec_seq (c := true) rfl (hs _ _ rfl) (rfl) (by first | exact hak | (rw [ByteArray.toList_eq]; exact hak) | (simpa [ByteArray.toList_eq] using hak))) ?_
         refine p_parts_w rfl ?_
         refine wN ?_
         refine tN (wKK hK27 ?_)
         refine wRet ?_
         refine tR ?_
         exact wR1 rfl rfl (fun ww H => ⟨rfl, H.out.off⟩)
     · skip
       have z3d : ¬ (1073741824 < (((((idxB s 1) * 16777216) + ((idxB s 2) * 65536)) + ((idxB s 3) * 256)) + (idxB s 4))) := of_decide_eq_false z3
       refine wSk ?_
       refine tN (wKK hK8 ?_)
       refine wSeqK fun KK28 hK28 => ?_
       refine wSeqK fun KK29 hK29 => ?_
       intro aa ww nn dd hs H
       have hsq : ((seqV s) != (((((idxB s 1) * 16777216) + ((idxB s 2) * 65536)) + ((idxB s 3) * 256)) + (idxB s 4))) = false := by rw [seq_is (of_decide_eq_true z2) (of_decide_eq_false z3)]; simp
       have hwr : ((writesV q) == (((q.kind == 4) || (q.kind == 5)) || (q.kind == 10))) = true := writes_eq q
       have hfl : ((isFilterV f) == (((f.kind == 0) && (f.n == 0)) || ((((decide (0 < f.kind)) && (decide (f.kind < 4))) && (decide (0 < f.n))) && (decide (f.n ≤ 1073741824))))) = true := fil_eq f
       refine wIn nn dd hs H ?_
       intro aa ww nn dd hs H
       refine parts_w_r10x1 q s f hq hib1 hib2 hib3 hib4 hwi1 hwi2 hwi3 hwi4 b3 b5 z1d z2d z3d hsq hwr hfl H aa nn (hs 1 _ rfl) (hs 3 _ rfl) (hs 5 _ rfl) (hs 7 _ rfl) ?_
       intro ab wv nn2 dd2 kp o94 H2
       refine wIn nn2 (dd2.trans dd) (Sat.cons (Sat.cons (Sat.cons (Sat.cons (Sat.cons (Sat.cons (Sat.cons (Sat.cons (Sat.cons (Sat.cons (Sat.cons (Sat.cons (sat_nil ab) ((kp 39 rfl).trans (hs 39 _ rfl))) ((kp 19 rfl).trans (hs 19 _ rfl))) ((kp 16 rfl).trans (hs 16 _ rfl))) ((kp 13 rfl).trans (hs 13 _ rfl))) ((kp 7 rfl).trans (hs 7 _ rfl))) ((kp 6 rfl).trans (hs 6 _ rfl))) ((kp 5 rfl).trans (hs 5 _ rfl))) ((kp 3 rfl).trans (hs 3 _ rfl))) ((kp 2 rfl).trans (hs 2 _ rfl))) ((kp 1 rfl).trans (hs 1 _ rfl))) ((kp 0 rfl).trans (hs 0 _ rfl))) o94) H2 ?_
       clear hs H kp H2 dd dd2 nn nn2 o94
       refine tN (wKK hK29 ?_)
       refine wCf rfl ?_
       refine wSk ?_
       refine tN (wKK hK28 ?_)
       refine wSeqK fun KK30 hK30 => ?_
       rcases Bool.eq_false_or_eq_true (formB q) with y6 | y6
       · skip
         rcases Bool.eq_false_or_eq_true (goodR (numsQ q)) with y7 | y7
         · skip
           intro aa ww nn dd hs H
           have hak : ((askV q).toList == (encR ([(numsQ q).getD 0 0, 0, (numsQ q).getD 2 0, (numsQ q).getD 3 0, (numsQ q).getD 4 0, 0, 0, (numsQ q).getD 7 0, (numsQ q).getD 8 0, (numsQ q).getD 9 0, (numsQ q).getD 10 0, (numsQ q).getD 11 0, (numsQ q).getD 12 0, (numsQ q).getD 13 0, (numsQ q).getD 14 0, (numsQ q).getD 15 0])).toList) = true := by rw [ask_ref hq y6 y7]; simp
           refine wIn nn dd hs H ?_
           refine wReg ?_
           refine wLr rfl tymsg_Request 1 rfl [.int .i64 q.kind, .int .i64 q.seq, .int .i64 q.who, .int .i64 q.role, .int .u32 q.token, .int .u64 q.key, .int .i64 q.call.id, .int .i64 q.call.kind, .int .i64 q.call.src, .int .i64 q.call.dst, .int .i64 q.call.car, .int .i64 q.call.state, .int .i64 q.call.owner, .int .i64 q.call.born, .int .i64 q.id, .int .i64 q.car, .int .i64 q.mode, .int .i64 q.filter.kind, .int .i64 q.filter.n] rfl rfl ?_
           refine wQ (l := [.agg #[.int .i64 q.kind, .int .i64 q.seq, .int .i64 q.who, .int .i64 q.role, .int .u32 q.token, .int .u64 q.key, .int .i64 q.call.id, .int .i64 q.call.kind, .int .i64 q.call.src, .int .i64 q.call.dst, .int .i64 q.call.car, .int .i64 q.call.state, .int .i64 q.call.owner, .int .i64 q.call.born, .int .i64 q.id, .int .i64 q.car, .int .i64 q.mode, .int .i64 q.filter.kind, .int .i64 q.filter.n]]) Try.func12 rfl (by kernel_rfl) (.tuple #[.agg #[.int .i64 ((numsQ q).getD 0 0), .int .i64 ((numsQ q).getD 1 0), .int .i64 ((numsQ q).getD 2 0), .int .i64 ((numsQ q).getD 3 0), .int .i64 ((numsQ q).getD 4 0), .int .i64 ((numsQ q).getD 5 0), .int .i64 ((numsQ q).getD 6 0), .int .i64 ((numsQ q).getD 7 0), .int .i64 ((numsQ q).getD 8 0), .int .i64 ((numsQ q).getD 9 0), .int .i64 ((numsQ q).getD 10 0), .int .i64 ((numsQ q).getD 11 0), .int .i64 ((numsQ q).getD 12 0), .int .i64 ((numsQ q).getD 13 0), .int .i64 ((numsQ q).getD 14 0), .int .i64 ((numsQ q).getD 15 0)], .bool true]) (fun wc H => by have h := formC q wc hq; rw [y6] at h; exact h) rfl rfl rfl rfl ?_
           iterate 3 refine p_parts_w rfl ?_
           refine wAl rfl rfl tyhoistwayref14_Request fun b8 => ?_
           refine wSr rfl tyhoistwayref14_Request 0 rfl rfl rfl rfl [.int .i64 ((numsQ q).getD 0 0), .int .i64 ((numsQ q).getD 1 0), .int .i64 ((numsQ q).getD 2 0), .int .i64 ((numsQ q).getD 3 0), .int .i64 ((numsQ q).getD 4 0), .int .i64 ((numsQ q).getD 5 0), .int .i64 ((numsQ q).getD 6 0), .int .i64 ((numsQ q).getD 7 0), .int .i64 ((numsQ q).getD 8 0), .int .i64 ((numsQ q).getD 9 0), .int .i64 ((numsQ q).getD 10 0), .int .i64 ((numsQ q).getD 11 0), .int .i64 ((numsQ q).getD 12 0), .int .i64 ((numsQ q).getD 13 0), .int .i64 ((numsQ q).getD 14 0), .int .i64 ((numsQ q).getD 15 0)] (by first | rfl | (simp only [spl]; rfl)) ?_
           refine p_parts_w rfl ?_
           refine wN ?_
           refine tN (wKK hK30 ?_)
           refine wSeqK fun KK31 hK31 => ?_
           refine wSeqK fun KK32 hK32 => ?_
           refine wReg ?_
           iterate 3 refine p_parts_w rfl ?_
           refine wLr rfl tyhoistwayref14_Request 0 rfl [.int .i64 ((numsQ q).getD 0 0), .int .i64 ((numsQ q).getD 1 0), .int .i64 ((numsQ q).getD 2 0), .int .i64 ((numsQ q).getD 3 0), .int .i64 ((numsQ q).getD 4 0), .int .i64 ((numsQ q).getD 5 0), .int .i64 ((numsQ q).getD 6 0), .int .i64 ((numsQ q).getD 7 0), .int .i64 ((numsQ q).getD 8 0), .int .i64 ((numsQ q).getD 9 0), .int .i64 ((numsQ q).getD 10 0), .int .i64 ((numsQ q).getD 11 0), .int .i64 ((numsQ q).getD 12 0), .int .i64 ((numsQ q).getD 13 0), .int .i64 ((numsQ q).getD 14 0), .int .i64 ((numsQ q).getD 15 0)] rfl rfl ?_
           refine wQ (l := [.agg #[.int .i64 ((numsQ q).getD 0 0), .int .i64 ((numsQ q).getD 1 0), .int .i64 ((numsQ q).getD 2 0), .int .i64 ((numsQ q).getD 3 0), .int .i64 ((numsQ q).getD 4 0), .int .i64 ((numsQ q).getD 5 0), .int .i64 ((numsQ q).getD 6 0), .int .i64 ((numsQ q).getD 7 0), .int .i64 ((numsQ q).getD 8 0), .int .i64 ((numsQ q).getD 9 0), .int .i64 ((numsQ q).getD 10 0), .int .i64 ((numsQ q).getD 11 0), .int .i64 ((numsQ q).getD 12 0), .int .i64 ((numsQ q).getD 13 0), .int .i64 ((numsQ q).getD 14 0), .int .i64 ((numsQ q).getD 15 0)]]) Try.func26 rfl (by kernel_rfl) (.bool true) (fun wc H => by have h := goodC (numsQ q) wc; rw [y7] at h; exact h) rfl rfl rfl rfl ?_
           iterate 2 refine p_parts_w rfl ?_
           refine wN ?_
           refine tN (wKK hK32 ?_)
           refine wCf rfl ?_
           refine wSk ?_
           refine tN (wKK hK31 ?_)
           refine wSeqK fun KK33 hK33 => ?_
           refine wReg ?_
           refine wE (.pointer (some ⟨b8, 1, none⟩)) rfl rfl rfl (fun aa ww hs _ => by have e8 := hs 8 _ rfl; have g8 := gt_of e8; simp only [execOp]; go_simp <;> omega) ?_
           refine wSt rfl tyint 0 rfl rfl rfl rfl ?_
           refine wN ?_
           refine tN (wKK hK33 ?_)
           refine wSeqK fun KK34 hK34 => ?_
           refine wReg ?_
           refine wE (.pointer (some ⟨b8, 5, none⟩)) rfl rfl rfl (fun aa ww hs _ => by have e8 := hs 8 _ rfl; have g8 := gt_of e8; simp only [execOp]; go_simp <;> omega) ?_
           refine wSt rfl tyint 0 rfl rfl rfl rfl ?_
           refine wN ?_
           refine tN (wKK hK34 ?_)
           refine wSeqK fun KK35 hK35 => ?_
           refine wReg ?_
           refine wE (.pointer (some ⟨b8, 6, none⟩)) rfl rfl rfl (fun aa ww hs _ => by have e8 := hs 8 _ rfl; have g8 := gt_of e8; simp only [execOp]; go_simp <;> omega) ?_
           refine wSt rfl tyint 0 rfl rfl rfl rfl ?_
           refine wN ?_
           refine tN (wKK hK35 ?_)
           refine wSeqK fun KK36 hK36 => ?_
           refine wReg ?_
           refine wLr rfl tyhoistwayref14_Request 0 rfl [.int .i64 ((numsQ q).getD 0 0), .int .i64 0, .int .i64 ((numsQ q).getD 2 0), .int .i64 ((numsQ q).getD 3 0), .int .i64 ((numsQ q).getD 4 0), .int .i64 0, .int .i64 0, .int .i64 ((numsQ q).getD 7 0), .int .i64 ((numsQ q).getD 8 0), .int .i64 ((numsQ q).getD 9 0), .int .i64 ((numsQ q).getD 10 0), .int .i64 ((numsQ q).getD 11 0), .int .i64 ((numsQ q).getD 12 0), .int .i64 ((numsQ q).getD 13 0), .int .i64 ((numsQ q).getD 14 0), .int .i64 ((numsQ q).getD 15 0)] rfl rfl ?_
           refine wQ (l := [.agg #[.int .i64 ((numsQ q).getD 0 0), .int .i64 0, .int .i64 ((numsQ q).getD 2 0), .int .i64 ((numsQ q).getD 3 0), .int .i64 ((numsQ q).getD 4 0), .int .i64 0, .int .i64 0, .int .i64 ((numsQ q).getD 7 0), .int .i64 ((numsQ q).getD 8 0), .int .i64 ((numsQ q).getD 9 0), .int .i64 ((numsQ q).getD 10 0), .int .i64 ((numsQ q).getD 11 0), .int .i64 ((numsQ q).getD 12 0), .int .i64 ((numsQ q).getD 13 0), .int .i64 ((numsQ q).getD 14 0), .int .i64 ((numsQ q).getD 15 0)]]) Try.func13 rfl (by kernel_rfl) (.tuple #[.string (encR ([(numsQ q).getD 0 0, 0, (numsQ q).getD 2 0, (numsQ q).getD 3 0, (numsQ q).getD 4 0, 0, 0, (numsQ q).getD 7 0, (numsQ q).getD 8 0, (numsQ q).getD 9 0, (numsQ q).getD 10 0, (numsQ q).getD 11 0, (numsQ q).getD 12 0, (numsQ q).getD 13 0, (numsQ q).getD 14 0, (numsQ q).getD 15 0])), .bool (goodR ([(numsQ q).getD 0 0, 0, (numsQ q).getD 2 0, (numsQ q).getD 3 0, (numsQ q).getD 4 0, 0, 0, (numsQ q).getD 7 0, (numsQ q).getD 8 0, (numsQ q).getD 9 0, (numsQ q).getD 10 0, (numsQ q).getD 11 0, (numsQ q).getD 12 0, (numsQ q).getD 13 0, (numsQ q).getD 14 0, (numsQ q).getD 15 0]))]) (fun wc H => refEncC ([(numsQ q).getD 0 0, 0, (numsQ q).getD 2 0, (numsQ q).getD 3 0, (numsQ q).getD 4 0, 0, 0, (numsQ q).getD 7 0, (numsQ q).getD 8 0, (numsQ q).getD 9 0, (numsQ q).getD 10 0, (numsQ q).getD 11 0, (numsQ q).getD 12 0, (numsQ q).getD 13 0, (numsQ q).getD 14 0, (numsQ q).getD 15 0]) wc) rfl rfl rfl rfl ?_
           iterate 5 refine p_parts_w rfl ?_
           refine wN ?_
           refine tN (wKK hK36 ?_)
           refine wSeqK fun KK37 hK37 => ?_
           refine wReg ?_
           refine wLr rfl tymsg_Request 2 rfl [.int .i64 q.kind, .int .i64 q.seq, .int .i64 q.who, .int .i64 q.role, .int .u32 q.token, .int .u64 q.key, .int .i64 q.call.id, .int .i64 q.call.kind, .int .i64 q.call.src, .int .i64 q.call.dst, .int .i64 q.call.car, .int .i64 q.call.state, .int .i64 q.call.owner, .int .i64 q.call.born, .int .i64 q.id, .int .i64 q.car, .int .i64 q.mode, .int .i64 q.filter.kind, .int .i64 q.filter.n] rfl rfl ?_
           refine wQ (l := [.agg #[.int .i64 q.kind, .int .i64 q.seq, .int .i64 q.who, .int .i64 q.role, .int .u32 q.token, .int .u64 q.key, .int .i64 q.call.id, .int .i64 q.call.kind, .int .i64 q.call.src, .int .i64 q.call.dst, .int .i64 q.call.car, .int .i64 q.call.state, .int .i64 q.call.owner, .int .i64 q.call.born, .int .i64 q.id, .int .i64 q.car, .int .i64 q.mode, .int .i64 q.filter.kind, .int .i64 q.filter.n]]) Try.func27 rfl (by kernel_rfl) (.string (askV q)) (fun wc H => askC q (Lib.hid hq) wc) rfl rfl rfl rfl ?_
           refine p_parts_w rfl ?_
           refine wE (.bool true) rfl rfl rfl (fun aa ww hs _ => by exact exec_seq (c := true) rfl (hs _ _ rfl) (hs _ _ rfl) (by first | exact hak | (rw [ByteArray.toList_eq]; exact hak) | (simpa [ByteArray.toList_eq] using hak))) ?_
           refine p_parts_w rfl ?_
           refine wN ?_
           refine tN (wKK hK37 ?_)
           refine wRet ?_
           exact wR1 rfl rfl (fun ww H => ⟨rfl, H.out.off⟩)
         · skip
           intro aa ww nn dd hs H
           have hak : ((askV q).toList.isEmpty) = true := by rw [ask_noF hq (.inr y7), ByteArray.toList_eq]; rfl
           refine wIn nn dd hs H ?_
           refine wReg ?_
           refine wLr rfl tymsg_Request 1 rfl [.int .i64 q.kind, .int .i64 q.seq, .int .i64 q.who, .int .i64 q.role, .int .u32 q.token, .int .u64 q.key, .int .i64 q.call.id, .int .i64 q.call.kind, .int .i64 q.call.src, .int .i64 q.call.dst, .int .i64 q.call.car, .int .i64 q.call.state, .int .i64 q.call.owner, .int .i64 q.call.born, .int .i64 q.id, .int .i64 q.car, .int .i64 q.mode, .int .i64 q.filter.kind, .int .i64 q.filter.n] rfl rfl ?_
           refine wQ (l := [.agg #[.int .i64 q.kind, .int .i64 q.seq, .int .i64 q.who, .int .i64 q.role, .int .u32 q.token, .int .u64 q.key, .int .i64 q.call.id, .int .i64 q.call.kind, .int .i64 q.call.src, .int .i64 q.call.dst, .int .i64 q.call.car, .int .i64 q.call.state, .int .i64 q.call.owner, .int .i64 q.call.born, .int .i64 q.id, .int .i64 q.car, .int .i64 q.mode, .int .i64 q.filter.kind, .int .i64 q.filter.n]]) Try.func12 rfl (by kernel_rfl) (.tuple #[.agg #[.int .i64 ((numsQ q).getD 0 0), .int .i64 ((numsQ q).getD 1 0), .int .i64 ((numsQ q).getD 2 0), .int .i64 ((numsQ q).getD 3 0), .int .i64 ((numsQ q).getD 4 0), .int .i64 ((numsQ q).getD 5 0), .int .i64 ((numsQ q).getD 6 0), .int .i64 ((numsQ q).getD 7 0), .int .i64 ((numsQ q).getD 8 0), .int .i64 ((numsQ q).getD 9 0), .int .i64 ((numsQ q).getD 10 0), .int .i64 ((numsQ q).getD 11 0), .int .i64 ((numsQ q).getD 12 0), .int .i64 ((numsQ q).getD 13 0), .int .i64 ((numsQ q).getD 14 0), .int .i64 ((numsQ q).getD 15 0)], .bool true]) (fun wc H => by have h := formC q wc hq; rw [y6] at h; exact h) rfl rfl rfl rfl ?_
           iterate 3 refine p_parts_w rfl ?_
           refine wAl rfl rfl tyhoistwayref14_Request fun b8 => ?_
           refine wSr rfl tyhoistwayref14_Request 0 rfl rfl rfl rfl [.int .i64 ((numsQ q).getD 0 0), .int .i64 ((numsQ q).getD 1 0), .int .i64 ((numsQ q).getD 2 0), .int .i64 ((numsQ q).getD 3 0), .int .i64 ((numsQ q).getD 4 0), .int .i64 ((numsQ q).getD 5 0), .int .i64 ((numsQ q).getD 6 0), .int .i64 ((numsQ q).getD 7 0), .int .i64 ((numsQ q).getD 8 0), .int .i64 ((numsQ q).getD 9 0), .int .i64 ((numsQ q).getD 10 0), .int .i64 ((numsQ q).getD 11 0), .int .i64 ((numsQ q).getD 12 0), .int .i64 ((numsQ q).getD 13 0), .int .i64 ((numsQ q).getD 14 0), .int .i64 ((numsQ q).getD 15 0)] (by first | rfl | (simp only [spl]; rfl)) ?_
           refine p_parts_w rfl ?_
           refine wN ?_
           refine tN (wKK hK30 ?_)
           refine wSeqK fun KK38 hK38 => ?_
           refine wSeqK fun KK39 hK39 => ?_
           refine wReg ?_
           iterate 3 refine p_parts_w rfl ?_
           refine wLr rfl tyhoistwayref14_Request 0 rfl [.int .i64 ((numsQ q).getD 0 0), .int .i64 ((numsQ q).getD 1 0), .int .i64 ((numsQ q).getD 2 0), .int .i64 ((numsQ q).getD 3 0), .int .i64 ((numsQ q).getD 4 0), .int .i64 ((numsQ q).getD 5 0), .int .i64 ((numsQ q).getD 6 0), .int .i64 ((numsQ q).getD 7 0), .int .i64 ((numsQ q).getD 8 0), .int .i64 ((numsQ q).getD 9 0), .int .i64 ((numsQ q).getD 10 0), .int .i64 ((numsQ q).getD 11 0), .int .i64 ((numsQ q).getD 12 0), .int .i64 ((numsQ q).getD 13 0), .int .i64 ((numsQ q).getD 14 0), .int .i64 ((numsQ q).getD 15 0)] rfl rfl ?_
           refine wQ (l := [.agg #[.int .i64 ((numsQ q).getD 0 0), .int .i64 ((numsQ q).getD 1 0), .int .i64 ((numsQ q).getD 2 0), .int .i64 ((numsQ q).getD 3 0), .int .i64 ((numsQ q).getD 4 0), .int .i64 ((numsQ q).getD 5 0), .int .i64 ((numsQ q).getD 6 0), .int .i64 ((numsQ q).getD 7 0), .int .i64 ((numsQ q).getD 8 0), .int .i64 ((numsQ q).getD 9 0), .int .i64 ((numsQ q).getD 10 0), .int .i64 ((numsQ q).getD 11 0), .int .i64 ((numsQ q).getD 12 0), .int .i64 ((numsQ q).getD 13 0), .int .i64 ((numsQ q).getD 14 0), .int .i64 ((numsQ q).getD 15 0)]]) Try.func26 rfl (by kernel_rfl) (.bool false) (fun wc H => by have h := goodC (numsQ q) wc; rw [y7] at h; exact h) rfl rfl rfl rfl ?_
           iterate 2 refine p_parts_w rfl ?_
           refine wN ?_
           refine tN (wKK hK39 ?_)
           refine wCt rfl ?_
           refine wSeqK fun KK40 hK40 => ?_
           refine wReg ?_
           refine wLr rfl tymsg_Request 2 rfl [.int .i64 q.kind, .int .i64 q.seq, .int .i64 q.who, .int .i64 q.role, .int .u32 q.token, .int .u64 q.key, .int .i64 q.call.id, .int .i64 q.call.kind, .int .i64 q.call.src, .int .i64 q.call.dst, .int .i64 q.call.car, .int .i64 q.call.state, .int .i64 q.call.owner, .int .i64 q.call.born, .int .i64 q.id, .int .i64 q.car, .int .i64 q.mode, .int .i64 q.filter.kind, .int .i64 q.filter.n] rfl rfl ?_
           refine wQ (l := [.agg #[.int .i64 q.kind, .int .i64 q.seq, .int .i64 q.who, .int .i64 q.role, .int .u32 q.token, .int .u64 q.key, .int .i64 q.call.id, .int .i64 q.call.kind, .int .i64 q.call.src, .int .i64 q.call.dst, .int .i64 q.call.car, .int .i64 q.call.state, .int .i64 q.call.owner, .int .i64 q.call.born, .int .i64 q.id, .int .i64 q.car, .int .i64 q.mode, .int .i64 q.filter.kind, .int .i64 q.filter.n]]) Try.func27 rfl (by kernel_rfl) (.string (askV q)) (fun wc H => askC q (Lib.hid hq) wc) rfl rfl rfl rfl ?_
           refine wE (.bool true) rfl rfl rfl (fun aa ww hs _ => by exact exec_seq (c := true) rfl (hs _ _ rfl) (rfl) (by first | exact hak | (rw [ByteArray.toList_eq]; exact hak) | (simpa [ByteArray.toList_eq] using hak))) ?_
           refine p_parts_w rfl ?_
           refine wN ?_
           refine tN (wKK hK40 ?_)
           refine wRet ?_
           refine tR ?_
           exact wR1 rfl rfl (fun ww H => ⟨rfl, H.out.off⟩)
       · skip
         intro aa ww nn dd hs H
         have hak : ((askV q).toList.isEmpty) = true := by rw [ask_noF hq (.inl y6), ByteArray.toList_eq]; rfl
         refine wIn nn dd hs H ?_
         refine wReg ?_
         refine wLr rfl tymsg_Request 1 rfl [.int .i64 q.kind, .int .i64 q.seq, .int .i64 q.who, .int .i64 q.role, .int .u32 q.token, .int .u64 q.key, .int .i64 q.call.id, .int .i64 q.call.kind, .int .i64 q.call.src, .int .i64 q.call.dst, .int .i64 q.call.car, .int .i64 q.call.state, .int .i64 q.call.owner, .int .i64 q.call.born, .int .i64 q.id, .int .i64 q.car, .int .i64 q.mode, .int .i64 q.filter.kind, .int .i64 q.filter.n] rfl rfl ?_
         refine wQ (l := [.agg #[.int .i64 q.kind, .int .i64 q.seq, .int .i64 q.who, .int .i64 q.role, .int .u32 q.token, .int .u64 q.key, .int .i64 q.call.id, .int .i64 q.call.kind, .int .i64 q.call.src, .int .i64 q.call.dst, .int .i64 q.call.car, .int .i64 q.call.state, .int .i64 q.call.owner, .int .i64 q.call.born, .int .i64 q.id, .int .i64 q.car, .int .i64 q.mode, .int .i64 q.filter.kind, .int .i64 q.filter.n]]) Try.func12 rfl (by kernel_rfl) (.tuple #[.agg #[.int .i64 ((numsQ q).getD 0 0), .int .i64 ((numsQ q).getD 1 0), .int .i64 ((numsQ q).getD 2 0), .int .i64 ((numsQ q).getD 3 0), .int .i64 ((numsQ q).getD 4 0), .int .i64 ((numsQ q).getD 5 0), .int .i64 ((numsQ q).getD 6 0), .int .i64 ((numsQ q).getD 7 0), .int .i64 ((numsQ q).getD 8 0), .int .i64 ((numsQ q).getD 9 0), .int .i64 ((numsQ q).getD 10 0), .int .i64 ((numsQ q).getD 11 0), .int .i64 ((numsQ q).getD 12 0), .int .i64 ((numsQ q).getD 13 0), .int .i64 ((numsQ q).getD 14 0), .int .i64 ((numsQ q).getD 15 0)], .bool false]) (fun wc H => by have h := formC q wc hq; rw [y6] at h; exact h) rfl rfl rfl rfl ?_
         iterate 3 refine p_parts_w rfl ?_
         refine wAl rfl rfl tyhoistwayref14_Request fun b8 => ?_
         refine wSr rfl tyhoistwayref14_Request 0 rfl rfl rfl rfl [.int .i64 ((numsQ q).getD 0 0), .int .i64 ((numsQ q).getD 1 0), .int .i64 ((numsQ q).getD 2 0), .int .i64 ((numsQ q).getD 3 0), .int .i64 ((numsQ q).getD 4 0), .int .i64 ((numsQ q).getD 5 0), .int .i64 ((numsQ q).getD 6 0), .int .i64 ((numsQ q).getD 7 0), .int .i64 ((numsQ q).getD 8 0), .int .i64 ((numsQ q).getD 9 0), .int .i64 ((numsQ q).getD 10 0), .int .i64 ((numsQ q).getD 11 0), .int .i64 ((numsQ q).getD 12 0), .int .i64 ((numsQ q).getD 13 0), .int .i64 ((numsQ q).getD 14 0), .int .i64 ((numsQ q).getD 15 0)] (by first | rfl | (simp only [spl]; rfl)) ?_
         refine p_parts_w rfl ?_
         refine wN ?_
         refine tN (wKK hK30 ?_)
         refine wSeqK fun KK41 hK41 => ?_
         refine wSeqK fun KK42 hK42 => ?_
         refine wReg ?_
         iterate 7 refine p_parts_w rfl ?_
         refine wN ?_
         refine tN (wKK hK42 ?_)
         refine wCt rfl ?_
         refine wSeqK fun KK43 hK43 => ?_
         refine wReg ?_
         refine wLr rfl tymsg_Request 2 rfl [.int .i64 q.kind, .int .i64 q.seq, .int .i64 q.who, .int .i64 q.role, .int .u32 q.token, .int .u64 q.key, .int .i64 q.call.id, .int .i64 q.call.kind, .int .i64 q.call.src, .int .i64 q.call.dst, .int .i64 q.call.car, .int .i64 q.call.state, .int .i64 q.call.owner, .int .i64 q.call.born, .int .i64 q.id, .int .i64 q.car, .int .i64 q.mode, .int .i64 q.filter.kind, .int .i64 q.filter.n] rfl rfl ?_
         refine wQ (l := [.agg #[.int .i64 q.kind, .int .i64 q.seq, .int .i64 q.who, .int .i64 q.role, .int .u32 q.token, .int .u64 q.key, .int .i64 q.call.id, .int .i64 q.call.kind, .int .i64 q.call.src, .int .i64 q.call.dst, .int .i64 q.call.car, .int .i64 q.call.state, .int .i64 q.call.owner, .int .i64 q.call.born, .int .i64 q.id, .int .i64 q.car, .int .i64 q.mode, .int .i64 q.filter.kind, .int .i64 q.filter.n]]) Try.func27 rfl (by kernel_rfl) (.string (askV q)) (fun wc H => askC q (Lib.hid hq) wc) rfl rfl rfl rfl ?_
         refine wE (.bool true) rfl rfl rfl (fun aa ww hs _ => by exact exec_seq (c := true) rfl (hs _ _ rfl) (rfl) (by first | exact hak | (rw [ByteArray.toList_eq]; exact hak) | (simpa [ByteArray.toList_eq] using hak))) ?_
         refine p_parts_w rfl ?_
         refine wN ?_
         refine tN (wKK hK43 ?_)
         refine wRet ?_
         refine tR ?_
         exact wR1 rfl rfl (fun ww H => ⟨rfl, H.out.off⟩)
   · skip
     have z2d : ¬ (5 ≤ (s.size : Int)) := of_decide_eq_false z2
     refine wSk ?_
     refine tN (wKK hK8 ?_)
     refine wSeqK fun KK44 hK44 => ?_
     refine wSeqK fun KK45 hK45 => ?_
     intro aa ww nn dd hs H
     have hsq : ((seqV s) != 0) = false := by rw [seq_short (of_decide_eq_false z2)]; rfl
     have hwr : ((writesV q) == (((q.kind == 4) || (q.kind == 5)) || (q.kind == 10))) = true := writes_eq q
     have hfl : ((isFilterV f) == (((f.kind == 0) && (f.n == 0)) || ((((decide (0 < f.kind)) && (decide (f.kind < 4))) && (decide (0 < f.n))) && (decide (f.n ≤ 1073741824))))) = true := fil_eq f
     refine wIn nn dd hs H ?_
     intro aa ww nn dd hs H
     refine parts_w_r10x2 q s f hq hib1 hib2 hib3 hib4 hwi1 hwi2 hwi3 hwi4 b3 b5 z1d z2d hsq hwr hfl H aa nn (hs 1 _ rfl) (hs 3 _ rfl) (hs 5 _ rfl) (hs 7 _ rfl) ?_
     intro ab wv nn2 dd2 kp o94 H2
     refine wIn nn2 (dd2.trans dd) (Sat.cons (Sat.cons (Sat.cons (Sat.cons (Sat.cons (Sat.cons (Sat.cons (Sat.cons (Sat.cons (Sat.cons (Sat.cons (sat_nil ab) ((kp 19 rfl).trans (hs 19 _ rfl))) ((kp 16 rfl).trans (hs 16 _ rfl))) ((kp 13 rfl).trans (hs 13 _ rfl))) ((kp 7 rfl).trans (hs 7 _ rfl))) ((kp 6 rfl).trans (hs 6 _ rfl))) ((kp 5 rfl).trans (hs 5 _ rfl))) ((kp 3 rfl).trans (hs 3 _ rfl))) ((kp 2 rfl).trans (hs 2 _ rfl))) ((kp 1 rfl).trans (hs 1 _ rfl))) ((kp 0 rfl).trans (hs 0 _ rfl))) o94) H2 ?_
     clear hs H kp H2 dd dd2 nn nn2 o94
     refine tN (wKK hK45 ?_)
     refine wCf rfl ?_
     refine wSk ?_
     refine tN (wKK hK44 ?_)
     refine wSeqK fun KK46 hK46 => ?_
     rcases Bool.eq_false_or_eq_true (formB q) with y8 | y8
     · skip
       rcases Bool.eq_false_or_eq_true (goodR (numsQ q)) with y9 | y9
       · skip
         intro aa ww nn dd hs H
         have hak : ((askV q).toList == (encR ([(numsQ q).getD 0 0, 0, (numsQ q).getD 2 0, (numsQ q).getD 3 0, (numsQ q).getD 4 0, 0, 0, (numsQ q).getD 7 0, (numsQ q).getD 8 0, (numsQ q).getD 9 0, (numsQ q).getD 10 0, (numsQ q).getD 11 0, (numsQ q).getD 12 0, (numsQ q).getD 13 0, (numsQ q).getD 14 0, (numsQ q).getD 15 0])).toList) = true := by rw [ask_ref hq y8 y9]; simp
         refine wIn nn dd hs H ?_
         refine wReg ?_
         refine wLr rfl tymsg_Request 1 rfl [.int .i64 q.kind, .int .i64 q.seq, .int .i64 q.who, .int .i64 q.role, .int .u32 q.token, .int .u64 q.key, .int .i64 q.call.id, .int .i64 q.call.kind, .int .i64 q.call.src, .int .i64 q.call.dst, .int .i64 q.call.car, .int .i64 q.call.state, .int .i64 q.call.owner, .int .i64 q.call.born, .int .i64 q.id, .int .i64 q.car, .int .i64 q.mode, .int .i64 q.filter.kind, .int .i64 q.filter.n] rfl rfl ?_
         refine wQ (l := [.agg #[.int .i64 q.kind, .int .i64 q.seq, .int .i64 q.who, .int .i64 q.role, .int .u32 q.token, .int .u64 q.key, .int .i64 q.call.id, .int .i64 q.call.kind, .int .i64 q.call.src, .int .i64 q.call.dst, .int .i64 q.call.car, .int .i64 q.call.state, .int .i64 q.call.owner, .int .i64 q.call.born, .int .i64 q.id, .int .i64 q.car, .int .i64 q.mode, .int .i64 q.filter.kind, .int .i64 q.filter.n]]) Try.func12 rfl (by kernel_rfl) (.tuple #[.agg #[.int .i64 ((numsQ q).getD 0 0), .int .i64 ((numsQ q).getD 1 0), .int .i64 ((numsQ q).getD 2 0), .int .i64 ((numsQ q).getD 3 0), .int .i64 ((numsQ q).getD 4 0), .int .i64 ((numsQ q).getD 5 0), .int .i64 ((numsQ q).getD 6 0), .int .i64 ((numsQ q).getD 7 0), .int .i64 ((numsQ q).getD 8 0), .int .i64 ((numsQ q).getD 9 0), .int .i64 ((numsQ q).getD 10 0), .int .i64 ((numsQ q).getD 11 0), .int .i64 ((numsQ q).getD 12 0), .int .i64 ((numsQ q).getD 13 0), .int .i64 ((numsQ q).getD 14 0), .int .i64 ((numsQ q).getD 15 0)], .bool true]) (fun wc H => by have h := formC q wc hq; rw [y8] at h; exact h) rfl rfl rfl rfl ?_
         iterate 3 refine p_parts_w rfl ?_
         refine wAl rfl rfl tyhoistwayref14_Request fun b8 => ?_
         refine wSr rfl tyhoistwayref14_Request 0 rfl rfl rfl rfl [.int .i64 ((numsQ q).getD 0 0), .int .i64 ((numsQ q).getD 1 0), .int .i64 ((numsQ q).getD 2 0), .int .i64 ((numsQ q).getD 3 0), .int .i64 ((numsQ q).getD 4 0), .int .i64 ((numsQ q).getD 5 0), .int .i64 ((numsQ q).getD 6 0), .int .i64 ((numsQ q).getD 7 0), .int .i64 ((numsQ q).getD 8 0), .int .i64 ((numsQ q).getD 9 0), .int .i64 ((numsQ q).getD 10 0), .int .i64 ((numsQ q).getD 11 0), .int .i64 ((numsQ q).getD 12 0), .int .i64 ((numsQ q).getD 13 0), .int .i64 ((numsQ q).getD 14 0), .int .i64 ((numsQ q).getD 15 0)] (by first | rfl | (simp only [spl]; rfl)) ?_
         refine p_parts_w rfl ?_
         refine wN ?_
         refine tN (wKK hK46 ?_)
         refine wSeqK fun KK47 hK47 => ?_
         refine wSeqK fun KK48 hK48 => ?_
         refine wReg ?_
         iterate 3 refine p_parts_w rfl ?_
         refine wLr rfl tyhoistwayref14_Request 0 rfl [.int .i64 ((numsQ q).getD 0 0), .int .i64 ((numsQ q).getD 1 0), .int .i64 ((numsQ q).getD 2 0), .int .i64 ((numsQ q).getD 3 0), .int .i64 ((numsQ q).getD 4 0), .int .i64 ((numsQ q).getD 5 0), .int .i64 ((numsQ q).getD 6 0), .int .i64 ((numsQ q).getD 7 0), .int .i64 ((numsQ q).getD 8 0), .int .i64 ((numsQ q).getD 9 0), .int .i64 ((numsQ q).getD 10 0), .int .i64 ((numsQ q).getD 11 0), .int .i64 ((numsQ q).getD 12 0), .int .i64 ((numsQ q).getD 13 0), .int .i64 ((numsQ q).getD 14 0), .int .i64 ((numsQ q).getD 15 0)] rfl rfl ?_
         refine wQ (l := [.agg #[.int .i64 ((numsQ q).getD 0 0), .int .i64 ((numsQ q).getD 1 0), .int .i64 ((numsQ q).getD 2 0), .int .i64 ((numsQ q).getD 3 0), .int .i64 ((numsQ q).getD 4 0), .int .i64 ((numsQ q).getD 5 0), .int .i64 ((numsQ q).getD 6 0), .int .i64 ((numsQ q).getD 7 0), .int .i64 ((numsQ q).getD 8 0), .int .i64 ((numsQ q).getD 9 0), .int .i64 ((numsQ q).getD 10 0), .int .i64 ((numsQ q).getD 11 0), .int .i64 ((numsQ q).getD 12 0), .int .i64 ((numsQ q).getD 13 0), .int .i64 ((numsQ q).getD 14 0), .int .i64 ((numsQ q).getD 15 0)]]) Try.func26 rfl (by kernel_rfl) (.bool true) (fun wc H => by have h := goodC (numsQ q) wc; rw [y9] at h; exact h) rfl rfl rfl rfl ?_
         iterate 2 refine p_parts_w rfl ?_
         refine wN ?_
         refine tN (wKK hK48 ?_)
         refine wCf rfl ?_
         refine wSk ?_
         refine tN (wKK hK47 ?_)
         refine wSeqK fun KK49 hK49 => ?_
         refine wReg ?_
         refine wE (.pointer (some ⟨b8, 1, none⟩)) rfl rfl rfl (fun aa ww hs _ => by have e8 := hs 8 _ rfl; have g8 := gt_of e8; simp only [execOp]; go_simp <;> omega) ?_
         refine wSt rfl tyint 0 rfl rfl rfl rfl ?_
         refine wN ?_
         refine tN (wKK hK49 ?_)
         refine wSeqK fun KK50 hK50 => ?_
         refine wReg ?_
         refine wE (.pointer (some ⟨b8, 5, none⟩)) rfl rfl rfl (fun aa ww hs _ => by have e8 := hs 8 _ rfl; have g8 := gt_of e8; simp only [execOp]; go_simp <;> omega) ?_
         refine wSt rfl tyint 0 rfl rfl rfl rfl ?_
         refine wN ?_
         refine tN (wKK hK50 ?_)
         refine wSeqK fun KK51 hK51 => ?_
         refine wReg ?_
         refine wE (.pointer (some ⟨b8, 6, none⟩)) rfl rfl rfl (fun aa ww hs _ => by have e8 := hs 8 _ rfl; have g8 := gt_of e8; simp only [execOp]; go_simp <;> omega) ?_
         refine wSt rfl tyint 0 rfl rfl rfl rfl ?_
         refine wN ?_
         refine tN (wKK hK51 ?_)
         refine wSeqK fun KK52 hK52 => ?_
         refine wReg ?_
         refine wLr rfl tyhoistwayref14_Request 0 rfl [.int .i64 ((numsQ q).getD 0 0), .int .i64 0, .int .i64 ((numsQ q).getD 2 0), .int .i64 ((numsQ q).getD 3 0), .int .i64 ((numsQ q).getD 4 0), .int .i64 0, .int .i64 0, .int .i64 ((numsQ q).getD 7 0), .int .i64 ((numsQ q).getD 8 0), .int .i64 ((numsQ q).getD 9 0), .int .i64 ((numsQ q).getD 10 0), .int .i64 ((numsQ q).getD 11 0), .int .i64 ((numsQ q).getD 12 0), .int .i64 ((numsQ q).getD 13 0), .int .i64 ((numsQ q).getD 14 0), .int .i64 ((numsQ q).getD 15 0)] rfl rfl ?_
         refine wQ (l := [.agg #[.int .i64 ((numsQ q).getD 0 0), .int .i64 0, .int .i64 ((numsQ q).getD 2 0), .int .i64 ((numsQ q).getD 3 0), .int .i64 ((numsQ q).getD 4 0), .int .i64 0, .int .i64 0, .int .i64 ((numsQ q).getD 7 0), .int .i64 ((numsQ q).getD 8 0), .int .i64 ((numsQ q).getD 9 0), .int .i64 ((numsQ q).getD 10 0), .int .i64 ((numsQ q).getD 11 0), .int .i64 ((numsQ q).getD 12 0), .int .i64 ((numsQ q).getD 13 0), .int .i64 ((numsQ q).getD 14 0), .int .i64 ((numsQ q).getD 15 0)]]) Try.func13 rfl (by kernel_rfl) (.tuple #[.string (encR ([(numsQ q).getD 0 0, 0, (numsQ q).getD 2 0, (numsQ q).getD 3 0, (numsQ q).getD 4 0, 0, 0, (numsQ q).getD 7 0, (numsQ q).getD 8 0, (numsQ q).getD 9 0, (numsQ q).getD 10 0, (numsQ q).getD 11 0, (numsQ q).getD 12 0, (numsQ q).getD 13 0, (numsQ q).getD 14 0, (numsQ q).getD 15 0])), .bool (goodR ([(numsQ q).getD 0 0, 0, (numsQ q).getD 2 0, (numsQ q).getD 3 0, (numsQ q).getD 4 0, 0, 0, (numsQ q).getD 7 0, (numsQ q).getD 8 0, (numsQ q).getD 9 0, (numsQ q).getD 10 0, (numsQ q).getD 11 0, (numsQ q).getD 12 0, (numsQ q).getD 13 0, (numsQ q).getD 14 0, (numsQ q).getD 15 0]))]) (fun wc H => refEncC ([(numsQ q).getD 0 0, 0, (numsQ q).getD 2 0, (numsQ q).getD 3 0, (numsQ q).getD 4 0, 0, 0, (numsQ q).getD 7 0, (numsQ q).getD 8 0, (numsQ q).getD 9 0, (numsQ q).getD 10 0, (numsQ q).getD 11 0, (numsQ q).getD 12 0, (numsQ q).getD 13 0, (numsQ q).getD 14 0, (numsQ q).getD 15 0]) wc) rfl rfl rfl rfl ?_
         iterate 5 refine p_parts_w rfl ?_
         refine wN ?_
         refine tN (wKK hK52 ?_)
         refine wSeqK fun KK53 hK53 => ?_
         refine wReg ?_
         refine wLr rfl tymsg_Request 2 rfl [.int .i64 q.kind, .int .i64 q.seq, .int .i64 q.who, .int .i64 q.role, .int .u32 q.token, .int .u64 q.key, .int .i64 q.call.id, .int .i64 q.call.kind, .int .i64 q.call.src, .int .i64 q.call.dst, .int .i64 q.call.car, .int .i64 q.call.state, .int .i64 q.call.owner, .int .i64 q.call.born, .int .i64 q.id, .int .i64 q.car, .int .i64 q.mode, .int .i64 q.filter.kind, .int .i64 q.filter.n] rfl rfl ?_
         refine wQ (l := [.agg #[.int .i64 q.kind, .int .i64 q.seq, .int .i64 q.who, .int .i64 q.role, .int .u32 q.token, .int .u64 q.key, .int .i64 q.call.id, .int .i64 q.call.kind, .int .i64 q.call.src, .int .i64 q.call.dst, .int .i64 q.call.car, .int .i64 q.call.state, .int .i64 q.call.owner, .int .i64 q.call.born, .int .i64 q.id, .int .i64 q.car, .int .i64 q.mode, .int .i64 q.filter.kind, .int .i64 q.filter.n]]) Try.func27 rfl (by kernel_rfl) (.string (askV q)) (fun wc H => askC q (Lib.hid hq) wc) rfl rfl rfl rfl ?_
         refine p_parts_w rfl ?_
         refine wE (.bool true) rfl rfl rfl (fun aa ww hs _ => by exact exec_seq (c := true) rfl (hs _ _ rfl) (hs _ _ rfl) (by first | exact hak | (rw [ByteArray.toList_eq]; exact hak) | (simpa [ByteArray.toList_eq] using hak))) ?_
         refine p_parts_w rfl ?_
         refine wN ?_
         refine tN (wKK hK53 ?_)
         refine wRet ?_
         exact wR1 rfl rfl (fun ww H => ⟨rfl, H.out.off⟩)
       · skip
         intro aa ww nn dd hs H
         have hak : ((askV q).toList.isEmpty) = true := by rw [ask_noF hq (.inr y9), ByteArray.toList_eq]; rfl
         refine wIn nn dd hs H ?_
         refine wReg ?_
         refine wLr rfl tymsg_Request 1 rfl [.int .i64 q.kind, .int .i64 q.seq, .int .i64 q.who, .int .i64 q.role, .int .u32 q.token, .int .u64 q.key, .int .i64 q.call.id, .int .i64 q.call.kind, .int .i64 q.call.src, .int .i64 q.call.dst, .int .i64 q.call.car, .int .i64 q.call.state, .int .i64 q.call.owner, .int .i64 q.call.born, .int .i64 q.id, .int .i64 q.car, .int .i64 q.mode, .int .i64 q.filter.kind, .int .i64 q.filter.n] rfl rfl ?_
         refine wQ (l := [.agg #[.int .i64 q.kind, .int .i64 q.seq, .int .i64 q.who, .int .i64 q.role, .int .u32 q.token, .int .u64 q.key, .int .i64 q.call.id, .int .i64 q.call.kind, .int .i64 q.call.src, .int .i64 q.call.dst, .int .i64 q.call.car, .int .i64 q.call.state, .int .i64 q.call.owner, .int .i64 q.call.born, .int .i64 q.id, .int .i64 q.car, .int .i64 q.mode, .int .i64 q.filter.kind, .int .i64 q.filter.n]]) Try.func12 rfl (by kernel_rfl) (.tuple #[.agg #[.int .i64 ((numsQ q).getD 0 0), .int .i64 ((numsQ q).getD 1 0), .int .i64 ((numsQ q).getD 2 0), .int .i64 ((numsQ q).getD 3 0), .int .i64 ((numsQ q).getD 4 0), .int .i64 ((numsQ q).getD 5 0), .int .i64 ((numsQ q).getD 6 0), .int .i64 ((numsQ q).getD 7 0), .int .i64 ((numsQ q).getD 8 0), .int .i64 ((numsQ q).getD 9 0), .int .i64 ((numsQ q).getD 10 0), .int .i64 ((numsQ q).getD 11 0), .int .i64 ((numsQ q).getD 12 0), .int .i64 ((numsQ q).getD 13 0), .int .i64 ((numsQ q).getD 14 0), .int .i64 ((numsQ q).getD 15 0)], .bool true]) (fun wc H => by have h := formC q wc hq; rw [y8] at h; exact h) rfl rfl rfl rfl ?_
         iterate 3 refine p_parts_w rfl ?_
         refine wAl rfl rfl tyhoistwayref14_Request fun b8 => ?_
         refine wSr rfl tyhoistwayref14_Request 0 rfl rfl rfl rfl [.int .i64 ((numsQ q).getD 0 0), .int .i64 ((numsQ q).getD 1 0), .int .i64 ((numsQ q).getD 2 0), .int .i64 ((numsQ q).getD 3 0), .int .i64 ((numsQ q).getD 4 0), .int .i64 ((numsQ q).getD 5 0), .int .i64 ((numsQ q).getD 6 0), .int .i64 ((numsQ q).getD 7 0), .int .i64 ((numsQ q).getD 8 0), .int .i64 ((numsQ q).getD 9 0), .int .i64 ((numsQ q).getD 10 0), .int .i64 ((numsQ q).getD 11 0), .int .i64 ((numsQ q).getD 12 0), .int .i64 ((numsQ q).getD 13 0), .int .i64 ((numsQ q).getD 14 0), .int .i64 ((numsQ q).getD 15 0)] (by first | rfl | (simp only [spl]; rfl)) ?_
         refine p_parts_w rfl ?_
         refine wN ?_
         refine tN (wKK hK46 ?_)
         refine wSeqK fun KK54 hK54 => ?_
         refine wSeqK fun KK55 hK55 => ?_
         refine wReg ?_
         iterate 3 refine p_parts_w rfl ?_
         refine wLr rfl tyhoistwayref14_Request 0 rfl [.int .i64 ((numsQ q).getD 0 0), .int .i64 ((numsQ q).getD 1 0), .int .i64 ((numsQ q).getD 2 0), .int .i64 ((numsQ q).getD 3 0), .int .i64 ((numsQ q).getD 4 0), .int .i64 ((numsQ q).getD 5 0), .int .i64 ((numsQ q).getD 6 0), .int .i64 ((numsQ q).getD 7 0), .int .i64 ((numsQ q).getD 8 0), .int .i64 ((numsQ q).getD 9 0), .int .i64 ((numsQ q).getD 10 0), .int .i64 ((numsQ q).getD 11 0), .int .i64 ((numsQ q).getD 12 0), .int .i64 ((numsQ q).getD 13 0), .int .i64 ((numsQ q).getD 14 0), .int .i64 ((numsQ q).getD 15 0)] rfl rfl ?_
         refine wQ (l := [.agg #[.int .i64 ((numsQ q).getD 0 0), .int .i64 ((numsQ q).getD 1 0), .int .i64 ((numsQ q).getD 2 0), .int .i64 ((numsQ q).getD 3 0), .int .i64 ((numsQ q).getD 4 0), .int .i64 ((numsQ q).getD 5 0), .int .i64 ((numsQ q).getD 6 0), .int .i64 ((numsQ q).getD 7 0), .int .i64 ((numsQ q).getD 8 0), .int .i64 ((numsQ q).getD 9 0), .int .i64 ((numsQ q).getD 10 0), .int .i64 ((numsQ q).getD 11 0), .int .i64 ((numsQ q).getD 12 0), .int .i64 ((numsQ q).getD 13 0), .int .i64 ((numsQ q).getD 14 0), .int .i64 ((numsQ q).getD 15 0)]]) Try.func26 rfl (by kernel_rfl) (.bool false) (fun wc H => by have h := goodC (numsQ q) wc; rw [y9] at h; exact h) rfl rfl rfl rfl ?_
         iterate 2 refine p_parts_w rfl ?_
         refine wN ?_
         refine tN (wKK hK55 ?_)
         refine wCt rfl ?_
         refine wSeqK fun KK56 hK56 => ?_
         refine wReg ?_
         refine wLr rfl tymsg_Request 2 rfl [.int .i64 q.kind, .int .i64 q.seq, .int .i64 q.who, .int .i64 q.role, .int .u32 q.token, .int .u64 q.key, .int .i64 q.call.id, .int .i64 q.call.kind, .int .i64 q.call.src, .int .i64 q.call.dst, .int .i64 q.call.car, .int .i64 q.call.state, .int .i64 q.call.owner, .int .i64 q.call.born, .int .i64 q.id, .int .i64 q.car, .int .i64 q.mode, .int .i64 q.filter.kind, .int .i64 q.filter.n] rfl rfl ?_
         refine wQ (l := [.agg #[.int .i64 q.kind, .int .i64 q.seq, .int .i64 q.who, .int .i64 q.role, .int .u32 q.token, .int .u64 q.key, .int .i64 q.call.id, .int .i64 q.call.kind, .int .i64 q.call.src, .int .i64 q.call.dst, .int .i64 q.call.car, .int .i64 q.call.state, .int .i64 q.call.owner, .int .i64 q.call.born, .int .i64 q.id, .int .i64 q.car, .int .i64 q.mode, .int .i64 q.filter.kind, .int .i64 q.filter.n]]) Try.func27 rfl (by kernel_rfl) (.string (askV q)) (fun wc H => askC q (Lib.hid hq) wc) rfl rfl rfl rfl ?_
         refine wE (.bool true) rfl rfl rfl (fun aa ww hs _ => by exact exec_seq (c := true) rfl (hs _ _ rfl) (rfl) (by first | exact hak | (rw [ByteArray.toList_eq]; exact hak) | (simpa [ByteArray.toList_eq] using hak))) ?_
         refine p_parts_w rfl ?_
         refine wN ?_
         refine tN (wKK hK56 ?_)
         refine wRet ?_
         refine tR ?_
         exact wR1 rfl rfl (fun ww H => ⟨rfl, H.out.off⟩)
     · skip
       intro aa ww nn dd hs H
       have hak : ((askV q).toList.isEmpty) = true := by rw [ask_noF hq (.inl y8), ByteArray.toList_eq]; rfl
       refine wIn nn dd hs H ?_
       refine wReg ?_
       refine wLr rfl tymsg_Request 1 rfl [.int .i64 q.kind, .int .i64 q.seq, .int .i64 q.who, .int .i64 q.role, .int .u32 q.token, .int .u64 q.key, .int .i64 q.call.id, .int .i64 q.call.kind, .int .i64 q.call.src, .int .i64 q.call.dst, .int .i64 q.call.car, .int .i64 q.call.state, .int .i64 q.call.owner, .int .i64 q.call.born, .int .i64 q.id, .int .i64 q.car, .int .i64 q.mode, .int .i64 q.filter.kind, .int .i64 q.filter.n] rfl rfl ?_
       refine wQ (l := [.agg #[.int .i64 q.kind, .int .i64 q.seq, .int .i64 q.who, .int .i64 q.role, .int .u32 q.token, .int .u64 q.key, .int .i64 q.call.id, .int .i64 q.call.kind, .int .i64 q.call.src, .int .i64 q.call.dst, .int .i64 q.call.car, .int .i64 q.call.state, .int .i64 q.call.owner, .int .i64 q.call.born, .int .i64 q.id, .int .i64 q.car, .int .i64 q.mode, .int .i64 q.filter.kind, .int .i64 q.filter.n]]) Try.func12 rfl (by kernel_rfl) (.tuple #[.agg #[.int .i64 ((numsQ q).getD 0 0), .int .i64 ((numsQ q).getD 1 0), .int .i64 ((numsQ q).getD 2 0), .int .i64 ((numsQ q).getD 3 0), .int .i64 ((numsQ q).getD 4 0), .int .i64 ((numsQ q).getD 5 0), .int .i64 ((numsQ q).getD 6 0), .int .i64 ((numsQ q).getD 7 0), .int .i64 ((numsQ q).getD 8 0), .int .i64 ((numsQ q).getD 9 0), .int .i64 ((numsQ q).getD 10 0), .int .i64 ((numsQ q).getD 11 0), .int .i64 ((numsQ q).getD 12 0), .int .i64 ((numsQ q).getD 13 0), .int .i64 ((numsQ q).getD 14 0), .int .i64 ((numsQ q).getD 15 0)], .bool false]) (fun wc H => by have h := formC q wc hq; rw [y8] at h; exact h) rfl rfl rfl rfl ?_
       iterate 3 refine p_parts_w rfl ?_
       refine wAl rfl rfl tyhoistwayref14_Request fun b8 => ?_
       refine wSr rfl tyhoistwayref14_Request 0 rfl rfl rfl rfl [.int .i64 ((numsQ q).getD 0 0), .int .i64 ((numsQ q).getD 1 0), .int .i64 ((numsQ q).getD 2 0), .int .i64 ((numsQ q).getD 3 0), .int .i64 ((numsQ q).getD 4 0), .int .i64 ((numsQ q).getD 5 0), .int .i64 ((numsQ q).getD 6 0), .int .i64 ((numsQ q).getD 7 0), .int .i64 ((numsQ q).getD 8 0), .int .i64 ((numsQ q).getD 9 0), .int .i64 ((numsQ q).getD 10 0), .int .i64 ((numsQ q).getD 11 0), .int .i64 ((numsQ q).getD 12 0), .int .i64 ((numsQ q).getD 13 0), .int .i64 ((numsQ q).getD 14 0), .int .i64 ((numsQ q).getD 15 0)] (by first | rfl | (simp only [spl]; rfl)) ?_
       refine p_parts_w rfl ?_
       refine wN ?_
       refine tN (wKK hK46 ?_)
       refine wSeqK fun KK57 hK57 => ?_
       refine wSeqK fun KK58 hK58 => ?_
       refine wReg ?_
       iterate 7 refine p_parts_w rfl ?_
       refine wN ?_
       refine tN (wKK hK58 ?_)
       refine wCt rfl ?_
       refine wSeqK fun KK59 hK59 => ?_
       refine wReg ?_
       refine wLr rfl tymsg_Request 2 rfl [.int .i64 q.kind, .int .i64 q.seq, .int .i64 q.who, .int .i64 q.role, .int .u32 q.token, .int .u64 q.key, .int .i64 q.call.id, .int .i64 q.call.kind, .int .i64 q.call.src, .int .i64 q.call.dst, .int .i64 q.call.car, .int .i64 q.call.state, .int .i64 q.call.owner, .int .i64 q.call.born, .int .i64 q.id, .int .i64 q.car, .int .i64 q.mode, .int .i64 q.filter.kind, .int .i64 q.filter.n] rfl rfl ?_
       refine wQ (l := [.agg #[.int .i64 q.kind, .int .i64 q.seq, .int .i64 q.who, .int .i64 q.role, .int .u32 q.token, .int .u64 q.key, .int .i64 q.call.id, .int .i64 q.call.kind, .int .i64 q.call.src, .int .i64 q.call.dst, .int .i64 q.call.car, .int .i64 q.call.state, .int .i64 q.call.owner, .int .i64 q.call.born, .int .i64 q.id, .int .i64 q.car, .int .i64 q.mode, .int .i64 q.filter.kind, .int .i64 q.filter.n]]) Try.func27 rfl (by kernel_rfl) (.string (askV q)) (fun wc H => askC q (Lib.hid hq) wc) rfl rfl rfl rfl ?_
       refine wE (.bool true) rfl rfl rfl (fun aa ww hs _ => by exact exec_seq (c := true) rfl (hs _ _ rfl) (rfl) (by first | exact hak | (rw [ByteArray.toList_eq]; exact hak) | (simpa [ByteArray.toList_eq] using hak))) ?_
       refine p_parts_w rfl ?_
       refine wN ?_
       refine tN (wKK hK59 ?_)
       refine wRet ?_
       refine tR ?_
       exact wR1 rfl rfl (fun ww H => ⟨rfl, H.out.off⟩)
end Go.Proofs.Ytloemjhhedkhiaa.Ms
