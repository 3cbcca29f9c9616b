/- What was encoded is decoded as it was: the long way, part 4. -/
import Derived.Test.YtloemjhhedkhiaaProg
import Derived.Below
import Derived.WalkKit
import Derived.KernelRfl
import Derived.RowKit3
import Derived.Deep.LoopGhost
import Derived.Deep.QuietTactic
import Derived.BigQuiet
import Derived.WideLaws
import Derived.Deep.DeepCutAuto
import Derived.Deep.CutBlock
import Derived.Lib.Hide
import Derived.Laws.BitsLemmas
import Derived.Laws.Bits64
import Derived.Laws.BitsAllLaws
import Derived.IntWalk
import Derived.Outline
import Derived.WalkSpells
import Derived.Test.YtloemjhhedkhiaaMem
import Derived.Test.YtloemjhhedkhiaaMsgBack0
namespace Go.Proofs.Ytloemjhhedkhiaa.Ms
open Go.RowKit Go.Proofs.Ytloemjhhedkhiaa.Mem Go.Proofs.Ytloemjhhedkhiaa.Pk Go.Proofs.Ytloemjhhedkhiaa.Ca

set_option maxRecDepth 20000 in
set_option maxHeartbeats 64000000 in
theorem back_way3 (a b : ReqV) (body : ByteArray) (m : Nat) (HA : Hid (okReq a)) (HB : Hid (okReq b)) (HD : Hid (okReq (decodeV body).1)) (w : World) (h : decide (256 < (body.size : Int)) = false) (q1 : ((encodeV a).2 != 0) = false) (q2 : ((encodeV b).2 != 0) = false) (q0 : ((decodeV body).2 == 0) = true) (e0 : encodeV (decodeV body).1 = (body, 0)) (hd : decodeV (encodeV a).1 = (a, 0)) (hm : decodeV ((encodeV a).1 ++ str [m]) = (noReq, 4)) (hl : decodeV ((encodeV a).1.extract 0 ((encodeV a).1.size - 1)) = (noReq, 4)) (hs : seqV (encodeV a).1 = a.seq) (ss : sameReq a a = true) (hz : 1 ≤ (encodeV a).1.size) (hz2 : (encodeV a).1.size ≤ 1024) (hq : ((encodeV a).1.toList == (encodeV b).1.toList) = sameReq a b) : Calls Try.prog 4 #[.agg #[.int .i64 a.kind, .int .i64 a.seq, .int .i64 a.who, .int .i64 a.role, .int .u32 a.token, .int .u64 a.key, .int .i64 a.call.id, .int .i64 a.call.kind, .int .i64 a.call.src, .int .i64 a.call.dst, .int .i64 a.call.car, .int .i64 a.call.state, .int .i64 a.call.owner, .int .i64 a.call.born, .int .i64 a.id, .int .i64 a.car, .int .i64 a.mode, .int .i64 a.filter.kind, .int .i64 a.filter.n], .agg #[.int .i64 b.kind, .int .i64 b.seq, .int .i64 b.who, .int .i64 b.role, .int .u32 b.token, .int .u64 b.key, .int .i64 b.call.id, .int .i64 b.call.kind, .int .i64 b.call.src, .int .i64 b.call.dst, .int .i64 b.call.car, .int .i64 b.call.state, .int .i64 b.call.owner, .int .i64 b.call.born, .int .i64 b.id, .int .i64 b.car, .int .i64 b.mode, .int .i64 b.filter.kind, .int .i64 b.filter.n], .string body, .int .u8 (m : Int)] w fun e w' => e = .returned (.bool true) ∧ Off [] w w' := by
  have H := Lib.hid (Hp.start [] w)
  have hcat : (encodeV a).1.size + (str [m]).size ≤ 9223372036854775807 := by rw [str_size]; simp; omega
  go_enter Try.func4, Try.ntmps4
  go_upto_region 17 with (first
    | ((with_reducible apply g_mem); (focus (exact rfl)); first
      | ((with_reducible apply hpN_box 29 4 H); (focus (exact rfl)); (focus (exact rfl)); (focus (exact rfl)); (focus (exact rfl)); (focus (exact rfl)); intro w5 b4 H5; clear H; have H := H5; clear H5)
      | ((with_reducible apply hpN_box 29 5 H); (focus (exact rfl)); (focus (exact rfl)); (focus (exact rfl)); (focus (exact rfl)); (focus (exact rfl)); intro w5 b5 H5; clear H; have H := H5; clear H5)
      | ((with_reducible apply hpN_alloc tymsg_Request 9 H); (focus (exact rfl)); (focus (exact rfl)); (focus (exact rfl)); intro w5 b9 H5; clear H; have H := H5; clear H5)
      | ((with_reducible apply hpA_store tymsg_Request H); (focus (exact rfl)); (focus (exact rfl)); (focus (exact rfl)); (focus (exact rfl)); (focus (exact rfl)); (focus (repeat (first | apply Put.head | apply Put.tail))); (focus (first | (simp; done) | (simp [*]; done) | (simp [Value.oneCell']; done))); (focus (first | (simp; done) | (simp [*]; done) | (simp [Value.oneCell']; done))); (focus ((try simp only [spl]); exact rfl)); (focus (exact rfl)); intro w5 H5; clear H; have H := H5; clear H5)
      | ((with_reducible apply hpA_load tymsg_Request H); (focus (exact rfl)); (focus (exact rfl)); (focus (first | (exact rfl) | (simp [Region.wanted]; done) | (simp only [Region.wanted]; go_simp; done))); (focus (repeat (first | exact List.Mem.head _ | apply List.Mem.tail))); (focus ((try simp only [List.drop_zero, List.drop_succ_cons, List.take_succ_cons, List.take_zero]); exact rfl)); (focus (exact rfl)))
      | ((with_reducible apply hpN_alloc tymsg_Request 17 H); (focus (exact rfl)); (focus (exact rfl)); (focus (exact rfl)); intro w5 b17 H5; clear H; have H := H5; clear H5)
      | ((with_reducible apply hpN_bslice Try.underlying44 tyuint8 69 H); (focus (exact rfl)); (focus (exact rfl)); (focus (first | (exact rfl) | (simp [Region.wanted]; done) | (simp only [Region.wanted]; go_simp; done))); (focus (first | decide | (simp; done))); (focus (first | decide | (simp; done))); (focus (first | (go_simp; exact rfl) | exact rfl)); intro w5 b69 H5; clear H; have H := H5; clear H5)
      | ((with_reducible apply hpN_alloc tymsg_Request 19 H); (focus (exact rfl)); (focus (exact rfl)); (focus (exact rfl)); intro w5 b19 H5; clear H; have H := H5; clear H5)
      | ((with_reducible apply hpN_alloc tymsg_Request 21 H); (focus (exact rfl)); (focus (exact rfl)); (focus (exact rfl)); intro w5 b21 H5; clear H; have H := H5; clear H5)
      | ((with_reducible apply hpA_load1 tyint H); (focus (exact rfl)); (focus (exact rfl)); (focus (first | (exact rfl) | (simp [Region.wanted]; done) | (simp only [Region.wanted]; go_simp; done))); (focus (repeat (first | exact List.Mem.head _ | apply List.Mem.tail))); (focus ((try simp only [List.getElem?_cons_zero, List.getElem?_cons_succ]); exact rfl))))
    | (go_at_call 11; (with_reducible refine (awake14 _).mono ?_); rintro e w5 ⟨rfl, ho⟩; have H5 := Lib.hid (H.out.quiet ho); clear H ho; have H := H5; clear H5)
    | (go_at_call 15; (with_reducible refine (decodeC _ _).mono ?_); rintro e w5 ⟨rfl, ho⟩; have H5 := Lib.hid (H.out.quiet ho); clear H ho; have H := H5; clear H5)
    | (go_at_call 14; (with_reducible refine (encodeC a HA _).mono ?_); rintro e w5 ⟨rfl, ho⟩; have H5 := Lib.hid (H.out.quiet ho); clear H ho; have H := H5; clear H5)
    | (go_at_call 14; (with_reducible refine (encodeC b HB _).mono ?_); rintro e w5 ⟨rfl, ho⟩; have H5 := Lib.hid (H.out.quiet ho); clear H ho; have H := H5; clear H5)
    | (go_at_call 14; (with_reducible refine (encodeC (decodeV body).1 HD _).mono ?_); rintro e w5 ⟨rfl, ho⟩; have H5 := Lib.hid (H.out.quiet ho); clear H ho; have H := H5; clear H5)
    | (go_at_call 17; (with_reducible refine (seqC _ _).mono ?_); rintro e w5 ⟨rfl, ho⟩; have H5 := Lib.hid (H.out.quiet ho); clear H ho; have H := H5; clear H5)
    | ((with_reducible apply eqlR); (focus (exact rfl)); (focus (first | (exact rfl) | (simp [Region.wanted]; done) | (simp only [Region.wanted]; go_simp; done))); (focus (exact rfl)); (focus (exact rfl)))
    | ((with_reducible apply convR H); (focus (exact rfl)); (focus (first | (exact rfl) | (simp [Region.wanted]; done) | (simp only [Region.wanted]; go_simp; done))); (focus (exact rfl)); (focus (repeat (first | exact List.Mem.head _ | apply List.Mem.tail)))))
  (with_reducible apply g_region 17)
  refine hp_walks H (fun j => match j with | 0 => .int .i64 0 | 1 => .bool true | 2 => .bool true | 3 => .agg #[.int .i64 a.kind, .int .i64 a.seq, .int .i64 a.who, .int .i64 a.role, .int .u32 a.token, .int .u64 a.key, .int .i64 a.call.id, .int .i64 a.call.kind, .int .i64 a.call.src, .int .i64 a.call.dst, .int .i64 a.call.car, .int .i64 a.call.state, .int .i64 a.call.owner, .int .i64 a.call.born, .int .i64 a.id, .int .i64 a.car, .int .i64 a.mode, .int .i64 a.filter.kind, .int .i64 a.filter.n] | 4 => .agg #[.int .i64 a.kind, .int .i64 a.seq, .int .i64 a.who, .int .i64 a.role, .int .u32 a.token, .int .u64 a.key, .int .i64 a.call.id, .int .i64 a.call.kind, .int .i64 a.call.src, .int .i64 a.call.dst, .int .i64 a.call.car, .int .i64 a.call.state, .int .i64 a.call.owner, .int .i64 a.call.born, .int .i64 a.id, .int .i64 a.car, .int .i64 a.mode, .int .i64 a.filter.kind, .int .i64 a.filter.n] | 5 => .bool true | 6 => .bool true | 7 => .bool true | 8 => .int .i64 (encodeV b).2 | 9 => .bool false | 10 => .bool false | 11 => .string (encodeV a).1 | 12 => .string (encodeV b).1 | 13 => .bool (sameReq a b) | 14 => .agg #[.int .i64 a.kind, .int .i64 a.seq, .int .i64 a.who, .int .i64 a.role, .int .u32 a.token, .int .u64 a.key, .int .i64 a.call.id, .int .i64 a.call.kind, .int .i64 a.call.src, .int .i64 a.call.dst, .int .i64 a.call.car, .int .i64 a.call.state, .int .i64 a.call.owner, .int .i64 a.call.born, .int .i64 a.id, .int .i64 a.car, .int .i64 a.mode, .int .i64 a.filter.kind, .int .i64 a.filter.n] | 15 => .agg #[.int .i64 b.kind, .int .i64 b.seq, .int .i64 b.who, .int .i64 b.role, .int .u32 b.token, .int .u64 b.key, .int .i64 b.call.id, .int .i64 b.call.kind, .int .i64 b.call.src, .int .i64 b.call.dst, .int .i64 b.call.car, .int .i64 b.call.state, .int .i64 b.call.owner, .int .i64 b.call.born, .int .i64 b.id, .int .i64 b.car, .int .i64 b.mode, .int .i64 b.filter.kind, .int .i64 b.filter.n] | 16 => .bool (sameReq a b) | 17 => .bool true | 18 => .bool true | 19 => .bool true | 20 => .bool true | 21 => .int .i64 4 | 22 => .bool true | 23 => .bool true | 24 => .bool true | 25 => .int .i64 4 | 26 => .bool true | 27 => .bool true | 28 => .bool true | 29 => .string (encodeV a).1 | 30 => .int .i64 a.seq | 31 => .pointer (some ⟨b4, 1, none⟩) | 32 => .int .i64 a.seq | 33 => .bool true | 34 => .bool true | 35 => .bool true | _ => undef) (by kernel_rfl) (by kernel_rfl) (by kernel_rfl) 119 rfl (by kernel_rfl) (by kernel_rfl) ?_ ?_ ?_
  · intro i o ho a' w' hfr H hdep hwant Q' hQ
    match i, ho with
    | 0, ho =>
      have ho2 := Option.some.inj ho
      clear ho
      subst ho2
      have e18 : a'.eval (.tmp 18) = .int .i64 0 := (hfr.old 18 (by kernel_rfl)).trans rfl
      have g18 : (a'.tmps[18]?).getD undef = .int .i64 0 := by rw [← Array.getD_eq_getD_getElem?]; exact e18
      refine wpList_step fun K hK => ?_
      rw [if_pos hwant]
      exact Inv.wp_val (.int .i64 0) (by simp only [execOp]; go_simp) (hK _ _ (hQ _ H))
    | 1, ho =>
      have ho2 := Option.some.inj ho
      clear ho
      subst ho2
      have e84 : a'.eval (.tmp 84) = .int .i64 0 := hdep ⟨0, .data⟩ (by simp) rfl
      have g84 : (a'.tmps[84]?).getD undef = .int .i64 0 := by rw [← Array.getD_eq_getD_getElem?]; exact e84
      refine wpList_step fun K hK => ?_
      rw [if_pos hwant]
      exact Inv.wp_val (.bool true) (by simp only [execOp]; go_simp) (hK _ _ (hQ _ H))
    | 2, ho =>
      have ho2 := Option.some.inj ho
      clear ho
      subst ho2
      have e85 : a'.eval (.tmp 85) = .bool true := hdep ⟨1, .data⟩ (by simp) rfl
      have g85 : (a'.tmps[85]?).getD undef = .bool true := by rw [← Array.getD_eq_getD_getElem?]; exact e85
      refine wpList_step fun K hK => ?_
      rw [if_pos hwant]
      exact Inv.wp_val (.bool true) (by simp only [execOp]; go_simp) (hK _ _ (hQ _ H))
    | 3, ho =>
      have ho2 := Option.some.inj ho
      clear ho
      subst ho2
      have e17 : a'.eval (.tmp 17) = .pointer (some ⟨b17, 0, none⟩) := (hfr.old 17 (by kernel_rfl)).trans rfl
      have g17 : (a'.tmps[17]?).getD undef = .pointer (some ⟨b17, 0, none⟩) := by rw [← Array.getD_eq_getD_getElem?]; exact e17
      refine hpA_load tymsg_Request H rfl e17 hwant (by (repeat (first | exact List.Mem.head _ | apply List.Mem.tail))) rfl rfl ?_
      exact hQ _ H
    | 4, ho =>
      have ho2 := Option.some.inj ho
      clear ho
      subst ho2
      have e4 : a'.eval (.tmp 4) = .pointer (some ⟨b4, 0, none⟩) := (hfr.old 4 (by kernel_rfl)).trans rfl
      have g4 : (a'.tmps[4]?).getD undef = .pointer (some ⟨b4, 0, none⟩) := by rw [← Array.getD_eq_getD_getElem?]; exact e4
      refine hpA_load tymsg_Request H rfl e4 hwant (by (repeat (first | exact List.Mem.head _ | apply List.Mem.tail))) rfl rfl ?_
      exact hQ _ H
    | 5, ho =>
      have ho2 := Option.some.inj ho
      clear ho
      subst ho2
      have e87 : a'.eval (.tmp 87) = .agg #[.int .i64 a.kind, .int .i64 a.seq, .int .i64 a.who, .int .i64 a.role, .int .u32 a.token, .int .u64 a.key, .int .i64 a.call.id, .int .i64 a.call.kind, .int .i64 a.call.src, .int .i64 a.call.dst, .int .i64 a.call.car, .int .i64 a.call.state, .int .i64 a.call.owner, .int .i64 a.call.born, .int .i64 a.id, .int .i64 a.car, .int .i64 a.mode, .int .i64 a.filter.kind, .int .i64 a.filter.n] := hdep ⟨3, .data⟩ (by simp) rfl
      have g87 : (a'.tmps[87]?).getD undef = .agg #[.int .i64 a.kind, .int .i64 a.seq, .int .i64 a.who, .int .i64 a.role, .int .u32 a.token, .int .u64 a.key, .int .i64 a.call.id, .int .i64 a.call.kind, .int .i64 a.call.src, .int .i64 a.call.dst, .int .i64 a.call.car, .int .i64 a.call.state, .int .i64 a.call.owner, .int .i64 a.call.born, .int .i64 a.id, .int .i64 a.car, .int .i64 a.mode, .int .i64 a.filter.kind, .int .i64 a.filter.n] := by rw [← Array.getD_eq_getD_getElem?]; exact e87
      have e88 : a'.eval (.tmp 88) = .agg #[.int .i64 a.kind, .int .i64 a.seq, .int .i64 a.who, .int .i64 a.role, .int .u32 a.token, .int .u64 a.key, .int .i64 a.call.id, .int .i64 a.call.kind, .int .i64 a.call.src, .int .i64 a.call.dst, .int .i64 a.call.car, .int .i64 a.call.state, .int .i64 a.call.owner, .int .i64 a.call.born, .int .i64 a.id, .int .i64 a.car, .int .i64 a.mode, .int .i64 a.filter.kind, .int .i64 a.filter.n] := hdep ⟨4, .data⟩ (by simp) rfl
      have g88 : (a'.tmps[88]?).getD undef = .agg #[.int .i64 a.kind, .int .i64 a.seq, .int .i64 a.who, .int .i64 a.role, .int .u32 a.token, .int .u64 a.key, .int .i64 a.call.id, .int .i64 a.call.kind, .int .i64 a.call.src, .int .i64 a.call.dst, .int .i64 a.call.car, .int .i64 a.call.state, .int .i64 a.call.owner, .int .i64 a.call.born, .int .i64 a.id, .int .i64 a.car, .int .i64 a.mode, .int .i64 a.filter.kind, .int .i64 a.filter.n] := by rw [← Array.getD_eq_getD_getElem?]; exact e88
      refine eqlR rfl hwant e87 e88 ?_
      rw [ss]
      exact hQ _ H
    | 6, ho =>
      have ho2 := Option.some.inj ho
      clear ho
      subst ho2
      have e86 : a'.eval (.tmp 86) = .bool true := hdep ⟨2, .data⟩ (by simp) rfl
      have g86 : (a'.tmps[86]?).getD undef = .bool true := by rw [← Array.getD_eq_getD_getElem?]; exact e86
      have e89 : a'.eval (.tmp 89) = .bool true := hdep ⟨5, .data⟩ (by simp) rfl
      have g89 : (a'.tmps[89]?).getD undef = .bool true := by rw [← Array.getD_eq_getD_getElem?]; exact e89
      refine wpList_step fun K hK => ?_
      rw [if_pos hwant]
      exact Inv.wp_val (.bool true) (by simp only [execOp]; go_simp) (hK _ _ (hQ _ H))
    | 7, ho =>
      have ho2 := Option.some.inj ho
      clear ho
      subst ho2
      have e90 : a'.eval (.tmp 90) = .bool true := hdep ⟨6, .data⟩ (by simp) rfl
      have g90 : (a'.tmps[90]?).getD undef = .bool true := by rw [← Array.getD_eq_getD_getElem?]; exact e90
      refine wpList_step fun K hK => ?_
      rw [if_pos hwant]
      exact Inv.wp_val (.bool true) (by simp only [execOp]; go_simp) (hK _ _ (hQ _ H))
    | 8, ho =>
      have ho2 := Option.some.inj ho
      clear ho
      subst ho2
      have e16 : a'.eval (.tmp 16) = .int .i64 (encodeV b).2 := (hfr.old 16 (by kernel_rfl)).trans rfl
      have g16 : (a'.tmps[16]?).getD undef = .int .i64 (encodeV b).2 := by rw [← Array.getD_eq_getD_getElem?]; exact e16
      refine wpList_step fun K hK => ?_
      rw [if_pos hwant]
      exact Inv.wp_val (.int .i64 (encodeV b).2) (by simp only [execOp]; go_simp) (hK _ _ (hQ _ H))
    | 9, ho =>
      have ho2 := Option.some.inj ho
      clear ho
      subst ho2
      have e92 : a'.eval (.tmp 92) = .int .i64 (encodeV b).2 := hdep ⟨8, .data⟩ (by simp) rfl
      have g92 : (a'.tmps[92]?).getD undef = .int .i64 (encodeV b).2 := by rw [← Array.getD_eq_getD_getElem?]; exact e92
      refine wpList_step fun K hK => ?_
      rw [if_pos hwant]
      exact Inv.wp_val (.bool false) (by simp only [execOp]; go_simp) (hK _ _ (hQ _ H))
    | 10, ho =>
      have ho2 := Option.some.inj ho
      clear ho
      subst ho2
      have e93 : a'.eval (.tmp 93) = .bool false := hdep ⟨9, .data⟩ (by simp) rfl
      have g93 : (a'.tmps[93]?).getD undef = .bool false := by rw [← Array.getD_eq_getD_getElem?]; exact e93
      refine wpList_step fun K hK => ?_
      rw [if_pos hwant]
      exact Inv.wp_val (.bool false) (by simp only [execOp]; go_simp) (hK _ _ (hQ _ H))
    | 11, ho =>
      have ho2 := Option.some.inj ho
      clear ho
      subst ho2
      have e13 : a'.eval (.tmp 13) = .string (encodeV a).1 := (hfr.old 13 (by kernel_rfl)).trans rfl
      have g13 : (a'.tmps[13]?).getD undef = .string (encodeV a).1 := by rw [← Array.getD_eq_getD_getElem?]; exact e13
      refine wpList_step fun K hK => ?_
      rw [if_pos hwant]
      exact Inv.wp_val (.string (encodeV a).1) (by simp only [execOp]; go_simp) (hK _ _ (hQ _ H))
    | 12, ho =>
      have ho2 := Option.some.inj ho
      clear ho
      subst ho2
      have e15 : a'.eval (.tmp 15) = .string (encodeV b).1 := (hfr.old 15 (by kernel_rfl)).trans rfl
      have g15 : (a'.tmps[15]?).getD undef = .string (encodeV b).1 := by rw [← Array.getD_eq_getD_getElem?]; exact e15
      refine wpList_step fun K hK => ?_
      rw [if_pos hwant]
      exact Inv.wp_val (.string (encodeV b).1) (by simp only [execOp]; go_simp) (hK _ _ (hQ _ H))
    | 13, ho =>
      have ho2 := Option.some.inj ho
      clear ho
      subst ho2
      have e95 : a'.eval (.tmp 95) = .string (encodeV a).1 := hdep ⟨11, .data⟩ (by simp) rfl
      have g95 : (a'.tmps[95]?).getD undef = .string (encodeV a).1 := by rw [← Array.getD_eq_getD_getElem?]; exact e95
      have e96 : a'.eval (.tmp 96) = .string (encodeV b).1 := hdep ⟨12, .data⟩ (by simp) rfl
      have g96 : (a'.tmps[96]?).getD undef = .string (encodeV b).1 := by rw [← Array.getD_eq_getD_getElem?]; exact e96
      refine wpList_step fun K hK => ?_
      rw [if_pos hwant]
      exact Inv.wp_val (.bool (sameReq a b)) (by simp only [execOp]; go_simp) (hK _ _ (hQ _ H))
    | 14, ho =>
      have ho2 := Option.some.inj ho
      clear ho
      subst ho2
      have e4 : a'.eval (.tmp 4) = .pointer (some ⟨b4, 0, none⟩) := (hfr.old 4 (by kernel_rfl)).trans rfl
      have g4 : (a'.tmps[4]?).getD undef = .pointer (some ⟨b4, 0, none⟩) := by rw [← Array.getD_eq_getD_getElem?]; exact e4
      refine hpA_load tymsg_Request H rfl e4 hwant (by (repeat (first | exact List.Mem.head _ | apply List.Mem.tail))) rfl rfl ?_
      exact hQ _ H
    | 15, ho =>
      have ho2 := Option.some.inj ho
      clear ho
      subst ho2
      have e5 : a'.eval (.tmp 5) = .pointer (some ⟨b5, 0, none⟩) := (hfr.old 5 (by kernel_rfl)).trans rfl
      have g5 : (a'.tmps[5]?).getD undef = .pointer (some ⟨b5, 0, none⟩) := by rw [← Array.getD_eq_getD_getElem?]; exact e5
      refine hpA_load tymsg_Request H rfl e5 hwant (by (repeat (first | exact List.Mem.head _ | apply List.Mem.tail))) rfl rfl ?_
      exact hQ _ H
    | 16, ho =>
      have ho2 := Option.some.inj ho
      clear ho
      subst ho2
      have e98 : a'.eval (.tmp 98) = .agg #[.int .i64 a.kind, .int .i64 a.seq, .int .i64 a.who, .int .i64 a.role, .int .u32 a.token, .int .u64 a.key, .int .i64 a.call.id, .int .i64 a.call.kind, .int .i64 a.call.src, .int .i64 a.call.dst, .int .i64 a.call.car, .int .i64 a.call.state, .int .i64 a.call.owner, .int .i64 a.call.born, .int .i64 a.id, .int .i64 a.car, .int .i64 a.mode, .int .i64 a.filter.kind, .int .i64 a.filter.n] := hdep ⟨14, .data⟩ (by simp) rfl
      have g98 : (a'.tmps[98]?).getD undef = .agg #[.int .i64 a.kind, .int .i64 a.seq, .int .i64 a.who, .int .i64 a.role, .int .u32 a.token, .int .u64 a.key, .int .i64 a.call.id, .int .i64 a.call.kind, .int .i64 a.call.src, .int .i64 a.call.dst, .int .i64 a.call.car, .int .i64 a.call.state, .int .i64 a.call.owner, .int .i64 a.call.born, .int .i64 a.id, .int .i64 a.car, .int .i64 a.mode, .int .i64 a.filter.kind, .int .i64 a.filter.n] := by rw [← Array.getD_eq_getD_getElem?]; exact e98
      have e99 : a'.eval (.tmp 99) = .agg #[.int .i64 b.kind, .int .i64 b.seq, .int .i64 b.who, .int .i64 b.role, .int .u32 b.token, .int .u64 b.key, .int .i64 b.call.id, .int .i64 b.call.kind, .int .i64 b.call.src, .int .i64 b.call.dst, .int .i64 b.call.car, .int .i64 b.call.state, .int .i64 b.call.owner, .int .i64 b.call.born, .int .i64 b.id, .int .i64 b.car, .int .i64 b.mode, .int .i64 b.filter.kind, .int .i64 b.filter.n] := hdep ⟨15, .data⟩ (by simp) rfl
      have g99 : (a'.tmps[99]?).getD undef = .agg #[.int .i64 b.kind, .int .i64 b.seq, .int .i64 b.who, .int .i64 b.role, .int .u32 b.token, .int .u64 b.key, .int .i64 b.call.id, .int .i64 b.call.kind, .int .i64 b.call.src, .int .i64 b.call.dst, .int .i64 b.call.car, .int .i64 b.call.state, .int .i64 b.call.owner, .int .i64 b.call.born, .int .i64 b.id, .int .i64 b.car, .int .i64 b.mode, .int .i64 b.filter.kind, .int .i64 b.filter.n] := by rw [← Array.getD_eq_getD_getElem?]; exact e99
      refine eqlR rfl hwant e98 e99 ?_
      exact hQ _ H
    | 17, ho =>
      have ho2 := Option.some.inj ho
      clear ho
      subst ho2
      have e97 : a'.eval (.tmp 97) = .bool (sameReq a b) := hdep ⟨13, .data⟩ (by simp) rfl
      have g97 : (a'.tmps[97]?).getD undef = .bool (sameReq a b) := by rw [← Array.getD_eq_getD_getElem?]; exact e97
      have e100 : a'.eval (.tmp 100) = .bool (sameReq a b) := hdep ⟨16, .data⟩ (by simp) rfl
      have g100 : (a'.tmps[100]?).getD undef = .bool (sameReq a b) := by rw [← Array.getD_eq_getD_getElem?]; exact e100
      refine wpList_step fun K hK => ?_
      rw [if_pos hwant]
      exact Inv.wp_val (.bool true) (by simp only [execOp]; go_simp) (hK _ _ (hQ _ H))
    | 18, ho =>
      have ho2 := Option.some.inj ho
      clear ho
      subst ho2
      have e94 : a'.eval (.tmp 94) = .bool false := hdep ⟨10, .data⟩ (by simp) rfl
      have g94 : (a'.tmps[94]?).getD undef = .bool false := by rw [← Array.getD_eq_getD_getElem?]; exact e94
      have e101 : a'.eval (.tmp 101) = .bool true := hdep ⟨17, .data⟩ (by simp) rfl
      have g101 : (a'.tmps[101]?).getD undef = .bool true := by rw [← Array.getD_eq_getD_getElem?]; exact e101
      refine wpList_step fun K hK => ?_
      rw [if_pos hwant]
      exact Inv.wp_val (.bool true) (by simp only [execOp]; go_simp) (hK _ _ (hQ _ H))
    | 19, ho =>
      have ho2 := Option.some.inj ho
      clear ho
      subst ho2
      have e91 : a'.eval (.tmp 91) = .bool true := hdep ⟨7, .data⟩ (by simp) rfl
      have g91 : (a'.tmps[91]?).getD undef = .bool true := by rw [← Array.getD_eq_getD_getElem?]; exact e91
      have e102 : a'.eval (.tmp 102) = .bool true := hdep ⟨18, .data⟩ (by simp) rfl
      have g102 : (a'.tmps[102]?).getD undef = .bool true := by rw [← Array.getD_eq_getD_getElem?]; exact e102
      refine wpList_step fun K hK => ?_
      rw [if_pos hwant]
      exact Inv.wp_val (.bool true) (by simp only [execOp]; go_simp) (hK _ _ (hQ _ H))
    | 20, ho =>
      have ho2 := Option.some.inj ho
      clear ho
      subst ho2
      have e103 : a'.eval (.tmp 103) = .bool true := hdep ⟨19, .data⟩ (by simp) rfl
      have g103 : (a'.tmps[103]?).getD undef = .bool true := by rw [← Array.getD_eq_getD_getElem?]; exact e103
      refine wpList_step fun K hK => ?_
      rw [if_pos hwant]
      exact Inv.wp_val (.bool true) (by simp only [execOp]; go_simp) (hK _ _ (hQ _ H))
    | 21, ho =>
      have ho2 := Option.some.inj ho
      clear ho
      subst ho2
      have e20 : a'.eval (.tmp 20) = .int .i64 4 := (hfr.old 20 (by kernel_rfl)).trans rfl
      have g20 : (a'.tmps[20]?).getD undef = .int .i64 4 := by rw [← Array.getD_eq_getD_getElem?]; exact e20
      refine wpList_step fun K hK => ?_
      rw [if_pos hwant]
      exact Inv.wp_val (.int .i64 4) (by simp only [execOp]; go_simp) (hK _ _ (hQ _ H))
    | 22, ho =>
      have ho2 := Option.some.inj ho
      clear ho
      subst ho2
      have e105 : a'.eval (.tmp 105) = .int .i64 4 := hdep ⟨21, .data⟩ (by simp) rfl
      have g105 : (a'.tmps[105]?).getD undef = .int .i64 4 := by rw [← Array.getD_eq_getD_getElem?]; exact e105
      refine wpList_step fun K hK => ?_
      rw [if_pos hwant]
      exact Inv.wp_val (.bool true) (by simp only [execOp]; go_simp) (hK _ _ (hQ _ H))
    | 23, ho =>
      have ho2 := Option.some.inj ho
      clear ho
      subst ho2
      have e104 : a'.eval (.tmp 104) = .bool true := hdep ⟨20, .data⟩ (by simp) rfl
      have g104 : (a'.tmps[104]?).getD undef = .bool true := by rw [← Array.getD_eq_getD_getElem?]; exact e104
      have e106 : a'.eval (.tmp 106) = .bool true := hdep ⟨22, .data⟩ (by simp) rfl
      have g106 : (a'.tmps[106]?).getD undef = .bool true := by rw [← Array.getD_eq_getD_getElem?]; exact e106
      refine wpList_step fun K hK => ?_
      rw [if_pos hwant]
      exact Inv.wp_val (.bool true) (by simp only [execOp]; go_simp) (hK _ _ (hQ _ H))
    | 24, ho =>
      have ho2 := Option.some.inj ho
      clear ho
      subst ho2
      have e107 : a'.eval (.tmp 107) = .bool true := hdep ⟨23, .data⟩ (by simp) rfl
      have g107 : (a'.tmps[107]?).getD undef = .bool true := by rw [← Array.getD_eq_getD_getElem?]; exact e107
      refine wpList_step fun K hK => ?_
      rw [if_pos hwant]
      exact Inv.wp_val (.bool true) (by simp only [execOp]; go_simp) (hK _ _ (hQ _ H))
    | 25, ho =>
      have ho2 := Option.some.inj ho
      clear ho
      subst ho2
      have e22 : a'.eval (.tmp 22) = .int .i64 4 := (hfr.old 22 (by kernel_rfl)).trans rfl
      have g22 : (a'.tmps[22]?).getD undef = .int .i64 4 := by rw [← Array.getD_eq_getD_getElem?]; exact e22
      refine wpList_step fun K hK => ?_
      rw [if_pos hwant]
      exact Inv.wp_val (.int .i64 4) (by simp only [execOp]; go_simp) (hK _ _ (hQ _ H))
    | 26, ho =>
      have ho2 := Option.some.inj ho
      clear ho
      subst ho2
      have e109 : a'.eval (.tmp 109) = .int .i64 4 := hdep ⟨25, .data⟩ (by simp) rfl
      have g109 : (a'.tmps[109]?).getD undef = .int .i64 4 := by rw [← Array.getD_eq_getD_getElem?]; exact e109
      refine wpList_step fun K hK => ?_
      rw [if_pos hwant]
      exact Inv.wp_val (.bool true) (by simp only [execOp]; go_simp) (hK _ _ (hQ _ H))
    | 27, ho =>
      have ho2 := Option.some.inj ho
      clear ho
      subst ho2
      have e108 : a'.eval (.tmp 108) = .bool true := hdep ⟨24, .data⟩ (by simp) rfl
      have g108 : (a'.tmps[108]?).getD undef = .bool true := by rw [← Array.getD_eq_getD_getElem?]; exact e108
      have e110 : a'.eval (.tmp 110) = .bool true := hdep ⟨26, .data⟩ (by simp) rfl
      have g110 : (a'.tmps[110]?).getD undef = .bool true := by rw [← Array.getD_eq_getD_getElem?]; exact e110
      refine wpList_step fun K hK => ?_
      rw [if_pos hwant]
      exact Inv.wp_val (.bool true) (by simp only [execOp]; go_simp) (hK _ _ (hQ _ H))
    | 28, ho =>
      have ho2 := Option.some.inj ho
      clear ho
      subst ho2
      have e111 : a'.eval (.tmp 111) = .bool true := hdep ⟨27, .data⟩ (by simp) rfl
      have g111 : (a'.tmps[111]?).getD undef = .bool true := by rw [← Array.getD_eq_getD_getElem?]; exact e111
      refine wpList_step fun K hK => ?_
      rw [if_pos hwant]
      exact Inv.wp_val (.bool true) (by simp only [execOp]; go_simp) (hK _ _ (hQ _ H))
    | 29, ho =>
      have ho2 := Option.some.inj ho
      clear ho
      subst ho2
      have e13 : a'.eval (.tmp 13) = .string (encodeV a).1 := (hfr.old 13 (by kernel_rfl)).trans rfl
      have g13 : (a'.tmps[13]?).getD undef = .string (encodeV a).1 := by rw [← Array.getD_eq_getD_getElem?]; exact e13
      refine wpList_step fun K hK => ?_
      rw [if_pos hwant]
      exact Inv.wp_val (.string (encodeV a).1) (by simp only [execOp]; go_simp) (hK _ _ (hQ _ H))
    | 30, ho =>
      have ho2 := Option.some.inj ho
      clear ho
      subst ho2
      have e113 : a'.eval (.tmp 113) = .string (encodeV a).1 := hdep ⟨29, .data⟩ (by simp) rfl
      have g113 : (a'.tmps[113]?).getD undef = .string (encodeV a).1 := by rw [← Array.getD_eq_getD_getElem?]; exact e113
      refine wpList_step fun K hK => ?_
      rw [if_pos hwant]
      refine Inv.wp_call 17 #[.string (encodeV a).1] (by simp only [execOp]; go_simp) (by have h := seqC (encodeV a).1 w'; rw [hs] at h; exact h) ?_
      rintro e w2 ⟨rfl, ho⟩
      exact ⟨_, rfl, hK _ _ (hQ _ (Lib.hid (H.out.quiet ho)))⟩
    | 31, ho =>
      have ho2 := Option.some.inj ho
      clear ho
      subst ho2
      have e4 : a'.eval (.tmp 4) = .pointer (some ⟨b4, 0, none⟩) := (hfr.old 4 (by kernel_rfl)).trans rfl
      have g4 : (a'.tmps[4]?).getD undef = .pointer (some ⟨b4, 0, none⟩) := by rw [← Array.getD_eq_getD_getElem?]; exact e4
      refine wpList_step fun K hK => ?_
      rw [if_pos hwant]
      exact Inv.wp_val (.pointer (some ⟨b4, 1, none⟩)) (by simp only [execOp]; go_simp) (hK _ _ (hQ _ H))
    | 32, ho =>
      have ho2 := Option.some.inj ho
      clear ho
      subst ho2
      have e115 : a'.eval (.tmp 115) = .pointer (some ⟨b4, 1, none⟩) := hdep ⟨31, .data⟩ (by simp) rfl
      have g115 : (a'.tmps[115]?).getD undef = .pointer (some ⟨b4, 1, none⟩) := by rw [← Array.getD_eq_getD_getElem?]; exact e115
      refine hpA_load1 tyint H rfl e115 hwant (by (repeat (first | exact List.Mem.head _ | apply List.Mem.tail))) rfl ?_
      exact hQ _ H
    | 33, ho =>
      have ho2 := Option.some.inj ho
      clear ho
      subst ho2
      have e114 : a'.eval (.tmp 114) = .int .i64 a.seq := hdep ⟨30, .data⟩ (by simp) rfl
      have g114 : (a'.tmps[114]?).getD undef = .int .i64 a.seq := by rw [← Array.getD_eq_getD_getElem?]; exact e114
      have e116 : a'.eval (.tmp 116) = .int .i64 a.seq := hdep ⟨32, .data⟩ (by simp) rfl
      have g116 : (a'.tmps[116]?).getD undef = .int .i64 a.seq := by rw [← Array.getD_eq_getD_getElem?]; exact e116
      refine wpList_step fun K hK => ?_
      rw [if_pos hwant]
      exact Inv.wp_val (.bool true) (by simp only [execOp]; go_simp) (hK _ _ (hQ _ H))
    | 34, ho =>
      have ho2 := Option.some.inj ho
      clear ho
      subst ho2
      have e112 : a'.eval (.tmp 112) = .bool true := hdep ⟨28, .data⟩ (by simp) rfl
      have g112 : (a'.tmps[112]?).getD undef = .bool true := by rw [← Array.getD_eq_getD_getElem?]; exact e112
      have e117 : a'.eval (.tmp 117) = .bool true := hdep ⟨33, .data⟩ (by simp) rfl
      have g117 : (a'.tmps[117]?).getD undef = .bool true := by rw [← Array.getD_eq_getD_getElem?]; exact e117
      refine wpList_step fun K hK => ?_
      rw [if_pos hwant]
      exact Inv.wp_val (.bool true) (by simp only [execOp]; go_simp) (hK _ _ (hQ _ H))
    | 35, ho =>
      have ho2 := Option.some.inj ho
      clear ho
      subst ho2
      have e118 : a'.eval (.tmp 118) = .bool true := hdep ⟨34, .data⟩ (by simp) rfl
      have g118 : (a'.tmps[118]?).getD undef = .bool true := by rw [← Array.getD_eq_getD_getElem?]; exact e118
      refine wpList_step fun K hK => ?_
      rw [if_pos hwant]
      exact Inv.wp_val (.bool true) (by simp only [execOp]; go_simp) (hK _ _ (hQ _ H))
    | _ + 36, ho => simp at ho
  · intro i o ho a' hdep hwant
    match i, ho with
    | 0, ho =>
      have ho2 := Option.some.inj ho
      clear ho
      subst ho2
      exact (skip_none hwant rfl).elim
    | 1, ho =>
      have ho2 := Option.some.inj ho
      clear ho
      subst ho2
      exact (skip_none hwant rfl).elim
    | 2, ho =>
      have ho2 := Option.some.inj ho
      clear ho
      subst ho2
      exact (skip_none hwant rfl).elim
    | 3, ho =>
      have ho2 := Option.some.inj ho
      clear ho
      subst ho2
      have eg : a'.tmps.getD 86 undef = .bool true := hdep ⟨2, .guard⟩ (by simp) rfl
      exact (skip_want hwant rfl (by kernel_rfl) eg).elim
    | 4, ho =>
      have ho2 := Option.some.inj ho
      clear ho
      subst ho2
      have eg : a'.tmps.getD 86 undef = .bool true := hdep ⟨2, .guard⟩ (by simp) rfl
      exact (skip_want hwant rfl (by kernel_rfl) eg).elim
    | 5, ho =>
      have ho2 := Option.some.inj ho
      clear ho
      subst ho2
      have eg : a'.tmps.getD 86 undef = .bool true := hdep ⟨2, .guard⟩ (by simp) rfl
      exact (skip_want hwant rfl (by kernel_rfl) eg).elim
    | 6, ho =>
      have ho2 := Option.some.inj ho
      clear ho
      subst ho2
      exact (skip_none hwant rfl).elim
    | 7, ho =>
      have ho2 := Option.some.inj ho
      clear ho
      subst ho2
      exact (skip_none hwant rfl).elim
    | 8, ho =>
      have ho2 := Option.some.inj ho
      clear ho
      subst ho2
      have eg : a'.tmps.getD 91 undef = .bool true := hdep ⟨7, .guard⟩ (by simp) rfl
      exact (skip_want hwant rfl (by kernel_rfl) eg).elim
    | 9, ho =>
      have ho2 := Option.some.inj ho
      clear ho
      subst ho2
      have eg : a'.tmps.getD 91 undef = .bool true := hdep ⟨7, .guard⟩ (by simp) rfl
      exact (skip_want hwant rfl (by kernel_rfl) eg).elim
    | 10, ho =>
      have ho2 := Option.some.inj ho
      clear ho
      subst ho2
      have eg : a'.tmps.getD 91 undef = .bool true := hdep ⟨7, .guard⟩ (by simp) rfl
      exact (skip_want hwant rfl (by kernel_rfl) eg).elim
    | 11, ho =>
      have ho2 := Option.some.inj ho
      clear ho
      subst ho2
      have eg : a'.tmps.getD 94 undef = .bool false := hdep ⟨10, .guard⟩ (by simp) rfl
      exact (skip_want hwant rfl (by kernel_rfl) eg).elim
    | 12, ho =>
      have ho2 := Option.some.inj ho
      clear ho
      subst ho2
      have eg : a'.tmps.getD 94 undef = .bool false := hdep ⟨10, .guard⟩ (by simp) rfl
      exact (skip_want hwant rfl (by kernel_rfl) eg).elim
    | 13, ho =>
      have ho2 := Option.some.inj ho
      clear ho
      subst ho2
      have eg : a'.tmps.getD 94 undef = .bool false := hdep ⟨10, .guard⟩ (by simp) rfl
      exact (skip_want hwant rfl (by kernel_rfl) eg).elim
    | 14, ho =>
      have ho2 := Option.some.inj ho
      clear ho
      subst ho2
      have eg : a'.tmps.getD 94 undef = .bool false := hdep ⟨10, .guard⟩ (by simp) rfl
      exact (skip_want hwant rfl (by kernel_rfl) eg).elim
    | 15, ho =>
      have ho2 := Option.some.inj ho
      clear ho
      subst ho2
      have eg : a'.tmps.getD 94 undef = .bool false := hdep ⟨10, .guard⟩ (by simp) rfl
      exact (skip_want hwant rfl (by kernel_rfl) eg).elim
    | 16, ho =>
      have ho2 := Option.some.inj ho
      clear ho
      subst ho2
      have eg : a'.tmps.getD 94 undef = .bool false := hdep ⟨10, .guard⟩ (by simp) rfl
      exact (skip_want hwant rfl (by kernel_rfl) eg).elim
    | 17, ho =>
      have ho2 := Option.some.inj ho
      clear ho
      subst ho2
      have eg : a'.tmps.getD 94 undef = .bool false := hdep ⟨10, .guard⟩ (by simp) rfl
      exact (skip_want hwant rfl (by kernel_rfl) eg).elim
    | 18, ho =>
      have ho2 := Option.some.inj ho
      clear ho
      subst ho2
      have eg : a'.tmps.getD 91 undef = .bool true := hdep ⟨7, .guard⟩ (by simp) rfl
      exact (skip_want hwant rfl (by kernel_rfl) eg).elim
    | 19, ho =>
      have ho2 := Option.some.inj ho
      clear ho
      subst ho2
      exact (skip_none hwant rfl).elim
    | 20, ho =>
      have ho2 := Option.some.inj ho
      clear ho
      subst ho2
      exact (skip_none hwant rfl).elim
    | 21, ho =>
      have ho2 := Option.some.inj ho
      clear ho
      subst ho2
      have eg : a'.tmps.getD 104 undef = .bool true := hdep ⟨20, .guard⟩ (by simp) rfl
      exact (skip_want hwant rfl (by kernel_rfl) eg).elim
    | 22, ho =>
      have ho2 := Option.some.inj ho
      clear ho
      subst ho2
      have eg : a'.tmps.getD 104 undef = .bool true := hdep ⟨20, .guard⟩ (by simp) rfl
      exact (skip_want hwant rfl (by kernel_rfl) eg).elim
    | 23, ho =>
      have ho2 := Option.some.inj ho
      clear ho
      subst ho2
      exact (skip_none hwant rfl).elim
    | 24, ho =>
      have ho2 := Option.some.inj ho
      clear ho
      subst ho2
      exact (skip_none hwant rfl).elim
    | 25, ho =>
      have ho2 := Option.some.inj ho
      clear ho
      subst ho2
      have eg : a'.tmps.getD 108 undef = .bool true := hdep ⟨24, .guard⟩ (by simp) rfl
      exact (skip_want hwant rfl (by kernel_rfl) eg).elim
    | 26, ho =>
      have ho2 := Option.some.inj ho
      clear ho
      subst ho2
      have eg : a'.tmps.getD 108 undef = .bool true := hdep ⟨24, .guard⟩ (by simp) rfl
      exact (skip_want hwant rfl (by kernel_rfl) eg).elim
    | 27, ho =>
      have ho2 := Option.some.inj ho
      clear ho
      subst ho2
      exact (skip_none hwant rfl).elim
    | 28, ho =>
      have ho2 := Option.some.inj ho
      clear ho
      subst ho2
      exact (skip_none hwant rfl).elim
    | 29, ho =>
      have ho2 := Option.some.inj ho
      clear ho
      subst ho2
      have eg : a'.tmps.getD 112 undef = .bool true := hdep ⟨28, .guard⟩ (by simp) rfl
      exact (skip_want hwant rfl (by kernel_rfl) eg).elim
    | 30, ho =>
      have ho2 := Option.some.inj ho
      clear ho
      subst ho2
      have eg : a'.tmps.getD 112 undef = .bool true := hdep ⟨28, .guard⟩ (by simp) rfl
      exact (skip_want hwant rfl (by kernel_rfl) eg).elim
    | 31, ho =>
      have ho2 := Option.some.inj ho
      clear ho
      subst ho2
      have eg : a'.tmps.getD 112 undef = .bool true := hdep ⟨28, .guard⟩ (by simp) rfl
      exact (skip_want hwant rfl (by kernel_rfl) eg).elim
    | 32, ho =>
      have ho2 := Option.some.inj ho
      clear ho
      subst ho2
      have eg : a'.tmps.getD 112 undef = .bool true := hdep ⟨28, .guard⟩ (by simp) rfl
      exact (skip_want hwant rfl (by kernel_rfl) eg).elim
    | 33, ho =>
      have ho2 := Option.some.inj ho
      clear ho
      subst ho2
      have eg : a'.tmps.getD 112 undef = .bool true := hdep ⟨28, .guard⟩ (by simp) rfl
      exact (skip_want hwant rfl (by kernel_rfl) eg).elim
    | 34, ho =>
      have ho2 := Option.some.inj ho
      clear ho
      subst ho2
      exact (skip_none hwant rfl).elim
    | 35, ho =>
      have ho2 := Option.some.inj ho
      clear ho
      subst ho2
      exact (skip_none hwant rfl).elim
    | _ + 36, ho => simp at ho
  · clear H
    intro w5 H
    simp only [List.size_toArray, List.length_cons, List.length_nil, Nat.reduceAdd, Inv.putAll, Inv.dstAt, List.getElem?_toArray, List.getElem?_cons_zero, List.getElem?_cons_succ, Option.bind_some, Act.put, List.setIfInBounds_toArray, List.set_cons_zero, List.set_cons_succ]
    go_wp2_with (first
      | ((with_reducible apply g_mem); (focus (exact rfl)); first
      | ((with_reducible apply hpN_box 29 4 H); (focus (exact rfl)); (focus (exact rfl)); (focus (exact rfl)); (focus (exact rfl)); (focus (exact rfl)); intro w5 b4 H5; clear H; have H := H5; clear H5)
      | ((with_reducible apply hpN_box 29 5 H); (focus (exact rfl)); (focus (exact rfl)); (focus (exact rfl)); (focus (exact rfl)); (focus (exact rfl)); intro w5 b5 H5; clear H; have H := H5; clear H5)
      | ((with_reducible apply hpN_alloc tymsg_Request 9 H); (focus (exact rfl)); (focus (exact rfl)); (focus (exact rfl)); intro w5 b9 H5; clear H; have H := H5; clear H5)
      | ((with_reducible apply hpA_store tymsg_Request H); (focus (exact rfl)); (focus (exact rfl)); (focus (exact rfl)); (focus (exact rfl)); (focus (exact rfl)); (focus (repeat (first | apply Put.head | apply Put.tail))); (focus (first | (simp; done) | (simp [*]; done) | (simp [Value.oneCell']; done))); (focus (first | (simp; done) | (simp [*]; done) | (simp [Value.oneCell']; done))); (focus ((try simp only [spl]); exact rfl)); (focus (exact rfl)); intro w5 H5; clear H; have H := H5; clear H5)
      | ((with_reducible apply hpA_load tymsg_Request H); (focus (exact rfl)); (focus (exact rfl)); (focus (first | (exact rfl) | (simp [Region.wanted]; done) | (simp only [Region.wanted]; go_simp; done))); (focus (repeat (first | exact List.Mem.head _ | apply List.Mem.tail))); (focus ((try simp only [List.drop_zero, List.drop_succ_cons, List.take_succ_cons, List.take_zero]); exact rfl)); (focus (exact rfl)))
      | ((with_reducible apply hpN_alloc tymsg_Request 17 H); (focus (exact rfl)); (focus (exact rfl)); (focus (exact rfl)); intro w5 b17 H5; clear H; have H := H5; clear H5)
      | ((with_reducible apply hpN_bslice Try.underlying44 tyuint8 69 H); (focus (exact rfl)); (focus (exact rfl)); (focus (first | (exact rfl) | (simp [Region.wanted]; done) | (simp only [Region.wanted]; go_simp; done))); (focus (first | decide | (simp; done))); (focus (first | decide | (simp; done))); (focus (first | (go_simp; exact rfl) | exact rfl)); intro w5 b69 H5; clear H; have H := H5; clear H5)
      | ((with_reducible apply hpN_alloc tymsg_Request 19 H); (focus (exact rfl)); (focus (exact rfl)); (focus (exact rfl)); intro w5 b19 H5; clear H; have H := H5; clear H5)
      | ((with_reducible apply hpN_alloc tymsg_Request 21 H); (focus (exact rfl)); (focus (exact rfl)); (focus (exact rfl)); intro w5 b21 H5; clear H; have H := H5; clear H5)
      | ((with_reducible apply hpA_load1 tyint H); (focus (exact rfl)); (focus (exact rfl)); (focus (first | (exact rfl) | (simp [Region.wanted]; done) | (simp only [Region.wanted]; go_simp; done))); (focus (repeat (first | exact List.Mem.head _ | apply List.Mem.tail))); (focus ((try simp only [List.getElem?_cons_zero, List.getElem?_cons_succ]); exact rfl))))
      | (go_at_call 11; (with_reducible refine (awake14 _).mono ?_); rintro e w5 ⟨rfl, ho⟩; have H5 := Lib.hid (H.out.quiet ho); clear H ho; have H := H5; clear H5)
      | (go_at_call 15; (with_reducible refine (decodeC _ _).mono ?_); rintro e w5 ⟨rfl, ho⟩; have H5 := Lib.hid (H.out.quiet ho); clear H ho; have H := H5; clear H5)
      | (go_at_call 14; (with_reducible refine (encodeC a HA _).mono ?_); rintro e w5 ⟨rfl, ho⟩; have H5 := Lib.hid (H.out.quiet ho); clear H ho; have H := H5; clear H5)
      | (go_at_call 14; (with_reducible refine (encodeC b HB _).mono ?_); rintro e w5 ⟨rfl, ho⟩; have H5 := Lib.hid (H.out.quiet ho); clear H ho; have H := H5; clear H5)
      | (go_at_call 14; (with_reducible refine (encodeC (decodeV body).1 HD _).mono ?_); rintro e w5 ⟨rfl, ho⟩; have H5 := Lib.hid (H.out.quiet ho); clear H ho; have H := H5; clear H5)
      | (go_at_call 17; (with_reducible refine (seqC _ _).mono ?_); rintro e w5 ⟨rfl, ho⟩; have H5 := Lib.hid (H.out.quiet ho); clear H ho; have H := H5; clear H5)
      | ((with_reducible apply eqlR); (focus (exact rfl)); (focus (first | (exact rfl) | (simp [Region.wanted]; done) | (simp only [Region.wanted]; go_simp; done))); (focus (exact rfl)); (focus (exact rfl)))
      | ((with_reducible apply convR H); (focus (exact rfl)); (focus (first | (exact rfl) | (simp [Region.wanted]; done) | (simp only [Region.wanted]; go_simp; done))); (focus (exact rfl)); (focus (repeat (first | exact List.Mem.head _ | apply List.Mem.tail)))))
    go_ret
    exact ⟨rfl, H.out.off⟩
end Go.Proofs.Ytloemjhhedkhiaa.Ms
