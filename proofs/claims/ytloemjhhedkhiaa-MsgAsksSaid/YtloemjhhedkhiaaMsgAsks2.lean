/- Who asks the same is heard the same: the walk of the statement, part 2. -/
import Derived.Test.YtloemjhhedkhiaaProg
import Derived.Below
import Derived.WalkKit
import Derived.KernelRfl
import Derived.RowKit3
import Derived.Deep.LoopGhost
import Derived.Deep.QuietTactic
import Derived.BigQuiet
import Derived.WideLaws
import Derived.Deep.DeepCutAuto
import Derived.Deep.CutBlock
import Derived.Lib.Hide
import Derived.Laws.BitsLemmas
import Derived.Laws.Bits64
import Derived.Laws.BitsAllLaws
import Derived.IntWalk
import Derived.Outline
import Derived.WalkSpells
import Derived.Test.YtloemjhhedkhiaaMem
import Derived.Test.YtloemjhhedkhiaaEq
import Derived.Test.YtloemjhhedkhiaaHpW
namespace Go.Proofs.Ytloemjhhedkhiaa.Ms
open Go.RowKit Go.Proofs.Ytloemjhhedkhiaa.Mem Go.Proofs.Ytloemjhhedkhiaa.Pk Go.Proofs.Ytloemjhhedkhiaa.Ca

theorem askZ2 (a : ReqV) (n k : Int) (h : Hid (okReq (withV a n k))) (w : World) : Calls Try.prog 27 #[.agg #[.int .i64 a.kind, .int .i64 n, .int .i64 a.who, .int .i64 a.role, .int .u32 a.token, .int .u64 k, .int .i64 a.call.id, .int .i64 a.call.kind, .int .i64 a.call.src, .int .i64 a.call.dst, .int .i64 a.call.car, .int .i64 a.call.state, .int .i64 a.call.owner, .int .i64 a.call.born, .int .i64 a.id, .int .i64 a.car, .int .i64 a.mode, .int .i64 a.filter.kind, .int .i64 a.filter.n]] w fun e w' => e = .returned (.string (askV (withV a n k))) ∧ Off [] w w' := askC (withV a n k) h w
theorem writesZ2 (a : ReqV) (n k : Int) (w : World) : Calls Try.prog 24 #[.agg #[.int .i64 a.kind, .int .i64 n, .int .i64 a.who, .int .i64 a.role, .int .u32 a.token, .int .u64 k, .int .i64 a.call.id, .int .i64 a.call.kind, .int .i64 a.call.src, .int .i64 a.call.dst, .int .i64 a.call.car, .int .i64 a.call.state, .int .i64 a.call.owner, .int .i64 a.call.born, .int .i64 a.id, .int .i64 a.car, .int .i64 a.mode, .int .i64 a.filter.kind, .int .i64 a.filter.n]] w fun e w' => e = .returned (.bool (writesV a)) ∧ Off [] w w' := writes (withV a n k) w
set_option maxRecDepth 20000 in
set_option maxHeartbeats 64000000 in
theorem asks_c2 (a b : ReqV) (n k : Int) (HA : Hid (okReq a)) (HB : Hid (okReq b)) (w : World) (hk : 0 ≤ k ∧ k ≤ 18446744073709551615) (q1 : ((encodeV a).2 != 0) = false) (q2 : ((encodeV b).2 != 0) = false) (s1 : ((askV a).toList == (askV b).toList) = sameReq (withV a 0 0) (withV b 0 0)) (s2 : (askV a).toList.isEmpty = false) (HZ1 : Hid (okReq (withV a n k))) (HZ2 : Hid (okReq (withV a n a.key))) (q3 : writesV a = false) : Calls Try.prog 7 #[.agg #[.int .i64 a.kind, .int .i64 a.seq, .int .i64 a.who, .int .i64 a.role, .int .u32 a.token, .int .u64 a.key, .int .i64 a.call.id, .int .i64 a.call.kind, .int .i64 a.call.src, .int .i64 a.call.dst, .int .i64 a.call.car, .int .i64 a.call.state, .int .i64 a.call.owner, .int .i64 a.call.born, .int .i64 a.id, .int .i64 a.car, .int .i64 a.mode, .int .i64 a.filter.kind, .int .i64 a.filter.n], .agg #[.int .i64 b.kind, .int .i64 b.seq, .int .i64 b.who, .int .i64 b.role, .int .u32 b.token, .int .u64 b.key, .int .i64 b.call.id, .int .i64 b.call.kind, .int .i64 b.call.src, .int .i64 b.call.dst, .int .i64 b.call.car, .int .i64 b.call.state, .int .i64 b.call.owner, .int .i64 b.call.born, .int .i64 b.id, .int .i64 b.car, .int .i64 b.mode, .int .i64 b.filter.kind, .int .i64 b.filter.n], .int .i64 n, .int .u64 k] w fun e w' => e = .returned (.bool true) ∧ Off [] w w' := by
  have H := Lib.hid (Hp.start [] w)
  have HK := Lib.hid hk
  clear hk
  have o1 : Hid ((encodeV a).2 = 0) := Lib.hid (by simpa using q1)
  go_enter Try.func7, Try.ntmps7
  go_upto_region 15 with (first
    | ((with_reducible apply g_mem); (focus (exact rfl)); first
      | ((with_reducible apply hpN_box 29 4 H); (focus (exact rfl)); (focus (exact rfl)); (focus (exact rfl)); (focus (exact rfl)); (focus (exact rfl)); intro w5 b4 H5; clear H; have H := H5; clear H5)
      | ((with_reducible apply hpN_box 29 5 H); (focus (exact rfl)); (focus (exact rfl)); (focus (exact rfl)); (focus (exact rfl)); (focus (exact rfl)); intro w5 b5 H5; clear H; have H := H5; clear H5)
      | ((with_reducible apply hpA_load tymsg_Request H); (focus (exact rfl)); (focus (exact rfl)); (focus (first | (exact rfl) | (simp [Region.wanted]; done) | (simp only [Region.wanted]; go_simp; done))); (focus (repeat (first | exact List.Mem.head _ | apply List.Mem.tail))); (focus ((try simp only [List.drop_zero, List.drop_succ_cons, List.take_succ_cons, List.take_zero]); exact rfl)); (focus (exact rfl)))
      | ((with_reducible apply hpN_alloc tymsg_Request 13 H); (focus (exact rfl)); (focus (exact rfl)); (focus (exact rfl)); intro w5 b13 H5; clear H; have H := H5; clear H5)
      | ((with_reducible apply hpA_store tymsg_Request H); (focus (exact rfl)); (focus (exact rfl)); (focus (exact rfl)); (focus (exact rfl)); (focus (exact rfl)); (focus (repeat (first | apply Put.head | apply Put.tail))); (focus (first | (simp; done) | (simp [*]; done) | (simp [Value.oneCell']; done))); (focus (first | (simp; done) | (simp [*]; done) | (simp [Value.oneCell']; done))); (focus ((try simp only [spl]); exact rfl)); (focus (exact rfl)); intro w5 H5; clear H; have H := H5; clear H5)
      | ((with_reducible apply hpN_alloc tymsg_Request 14 H); (focus (exact rfl)); (focus (exact rfl)); (focus (exact rfl)); intro w5 b14 H5; clear H; have H := H5; clear H5)
      | ((with_reducible apply hpA_store1 tyint H); (focus (exact rfl)); (focus (exact rfl)); (focus (exact rfl)); (focus (first | (go_simp; exact rfl) | exact rfl)); (focus (exact rfl)); (focus (repeat (first | apply Put.head | apply Put.tail))); (focus (first | (simp; done) | (simp [*]; done) | (simp [Value.oneCell']; done))); (focus (first | (simp; done) | (simp [*]; done) | (simp [Value.oneCell']; done))); (focus ((try simp only [List.set_cons_zero, List.set_cons_succ]); exact rfl)); (focus (exact rfl)); intro w5 H5; clear H; have H := H5; clear H5)
      | ((with_reducible apply hpA_store1 tyuint64 H); (focus (exact rfl)); (focus (exact rfl)); (focus (exact rfl)); (focus (first | (go_simp; exact rfl) | exact rfl)); (focus (exact rfl)); (focus (repeat (first | apply Put.head | apply Put.tail))); (focus (first | (simp; done) | (simp [*]; done) | (simp [Value.oneCell']; done))); (focus (first | (simp; done) | (simp [*]; done) | (simp [Value.oneCell']; done))); (focus ((try simp only [List.set_cons_zero, List.set_cons_succ]); exact rfl)); (focus (exact rfl)); intro w5 H5; clear H; have H := H5; clear H5)
      | ((with_reducible apply hpN_alloc tymsg_Request 15 H); (focus (exact rfl)); (focus (exact rfl)); (focus (exact rfl)); intro w5 b15 H5; clear H; have H := H5; clear H5)
      | ((with_reducible apply hpA_load1 tyint H); (focus (exact rfl)); (focus (exact rfl)); (focus (first | (exact rfl) | (simp [Region.wanted]; done) | (simp only [Region.wanted]; go_simp; done))); (focus (repeat (first | exact List.Mem.head _ | apply List.Mem.tail))); (focus ((try simp only [List.getElem?_cons_zero, List.getElem?_cons_succ]); exact rfl))))
    | (go_at_call 11; (with_reducible refine (awake14 _).mono ?_); rintro e w5 ⟨rfl, ho⟩; have H5 := Lib.hid (H.out.quiet ho); clear H ho; have H := H5; clear H5)
    | (go_at_call 14; (with_reducible refine (encodeC a HA _).mono ?_); rintro e w5 ⟨rfl, ho⟩; have H5 := Lib.hid (H.out.quiet ho); clear H ho; have H := H5; clear H5)
    | (go_at_call 14; (with_reducible refine (encodeC b HB _).mono ?_); rintro e w5 ⟨rfl, ho⟩; have H5 := Lib.hid (H.out.quiet ho); clear H ho; have H := H5; clear H5)
    | (go_at_call 27; (with_reducible refine (askC a HA _).mono ?_); rintro e w5 ⟨rfl, ho⟩; have H5 := Lib.hid (H.out.quiet ho); clear H ho; have H := H5; clear H5)
    | (go_at_call 27; (with_reducible refine (askC b HB _).mono ?_); rintro e w5 ⟨rfl, ho⟩; have H5 := Lib.hid (H.out.quiet ho); clear H ho; have H := H5; clear H5)
    | (go_at_call 27; (with_reducible refine (askZ2 a n k HZ1 _).mono ?_); rintro e w5 ⟨rfl, ho⟩; have H5 := Lib.hid (H.out.quiet ho); clear H ho; have H := H5; clear H5)
    | (go_at_call 27; (with_reducible refine (askZ2 a n a.key HZ2 _).mono ?_); rintro e w5 ⟨rfl, ho⟩; have H5 := Lib.hid (H.out.quiet ho); clear H ho; have H := H5; clear H5)
    | (go_at_call 24; (with_reducible refine (writes a _).mono ?_); rintro e w5 ⟨rfl, ho⟩; have H5 := Lib.hid (H.out.quiet ho); clear H ho; have H := H5; clear H5)
    | (go_at_call 24; (with_reducible refine (writesZ2 a n k _).mono ?_); rintro e w5 ⟨rfl, ho⟩; have H5 := Lib.hid (H.out.quiet ho); clear H ho; have H := H5; clear H5)
    | (go_at_call 24; (with_reducible refine (writesZ2 a n a.key _).mono ?_); rintro e w5 ⟨rfl, ho⟩; have H5 := Lib.hid (H.out.quiet ho); clear H ho; have H := H5; clear H5)
    | ((with_reducible apply eqlR); (focus (exact rfl)); (focus (first | (exact rfl) | (simp [Region.wanted]; done) | (simp only [Region.wanted]; go_simp; done))); (focus (exact rfl)); (focus (exact rfl))))
  (with_reducible apply g_region 15)
  refine hp_walks H (fun j => match j with | 0 => .agg #[.int .i64 a.kind, .int .i64 a.seq, .int .i64 a.who, .int .i64 a.role, .int .u32 a.token, .int .u64 a.key, .int .i64 a.call.id, .int .i64 a.call.kind, .int .i64 a.call.src, .int .i64 a.call.dst, .int .i64 a.call.car, .int .i64 a.call.state, .int .i64 a.call.owner, .int .i64 a.call.born, .int .i64 a.id, .int .i64 a.car, .int .i64 a.mode, .int .i64 a.filter.kind, .int .i64 a.filter.n] | 1 => .string (askV a) | 2 => .agg #[.int .i64 b.kind, .int .i64 b.seq, .int .i64 b.who, .int .i64 b.role, .int .u32 b.token, .int .u64 b.key, .int .i64 b.call.id, .int .i64 b.call.kind, .int .i64 b.call.src, .int .i64 b.call.dst, .int .i64 b.call.car, .int .i64 b.call.state, .int .i64 b.call.owner, .int .i64 b.call.born, .int .i64 b.id, .int .i64 b.car, .int .i64 b.mode, .int .i64 b.filter.kind, .int .i64 b.filter.n] | 3 => .string (askV b) | 4 => .bool (sameReq (withV a 0 0) (withV b 0 0)) | 5 => .agg #[.int .i64 a.kind, .int .i64 0, .int .i64 a.who, .int .i64 a.role, .int .u32 a.token, .int .u64 0, .int .i64 a.call.id, .int .i64 a.call.kind, .int .i64 a.call.src, .int .i64 a.call.dst, .int .i64 a.call.car, .int .i64 a.call.state, .int .i64 a.call.owner, .int .i64 a.call.born, .int .i64 a.id, .int .i64 a.car, .int .i64 a.mode, .int .i64 a.filter.kind, .int .i64 a.filter.n] | 6 => .agg #[.int .i64 b.kind, .int .i64 0, .int .i64 b.who, .int .i64 b.role, .int .u32 b.token, .int .u64 0, .int .i64 b.call.id, .int .i64 b.call.kind, .int .i64 b.call.src, .int .i64 b.call.dst, .int .i64 b.call.car, .int .i64 b.call.state, .int .i64 b.call.owner, .int .i64 b.call.born, .int .i64 b.id, .int .i64 b.car, .int .i64 b.mode, .int .i64 b.filter.kind, .int .i64 b.filter.n] | 7 => .bool (sameReq (withV a 0 0) (withV b 0 0)) | 8 => .bool false | 9 => .bool false | 10 => .agg #[.int .i64 a.kind, .int .i64 a.seq, .int .i64 a.who, .int .i64 a.role, .int .u32 a.token, .int .u64 a.key, .int .i64 a.call.id, .int .i64 a.call.kind, .int .i64 a.call.src, .int .i64 a.call.dst, .int .i64 a.call.car, .int .i64 a.call.state, .int .i64 a.call.owner, .int .i64 a.call.born, .int .i64 a.id, .int .i64 a.car, .int .i64 a.mode, .int .i64 a.filter.kind, .int .i64 a.filter.n] | 11 => .string (askV a) | 12 => .bool false | 13 => .bool false | _ => undef) (by kernel_rfl) (by kernel_rfl) (by kernel_rfl) 91 rfl (by kernel_rfl) (by kernel_rfl) ?_ ?_ ?_
  · intro i o ho a' w' hfr H hdep hwant Q' hQ
    match i, ho with
    | 0, ho =>
      injection ho with ho
      subst ho
      have e4 : a'.eval (.tmp 4) = .pointer (some ⟨b4, 0, none⟩) := (hfr.old 4 (by kernel_rfl)).trans rfl
      have g4 : (a'.tmps[4]?).getD undef = .pointer (some ⟨b4, 0, none⟩) := by rw [← Array.getD_eq_getD_getElem?]; exact e4
      refine hpA_load tymsg_Request H rfl e4 hwant (by (repeat (first | exact List.Mem.head _ | apply List.Mem.tail))) rfl rfl ?_
      exact hQ _ H
    | 1, ho =>
      injection ho with ho
      subst ho
      have e44 : a'.eval (.tmp 44) = .agg #[.int .i64 a.kind, .int .i64 a.seq, .int .i64 a.who, .int .i64 a.role, .int .u32 a.token, .int .u64 a.key, .int .i64 a.call.id, .int .i64 a.call.kind, .int .i64 a.call.src, .int .i64 a.call.dst, .int .i64 a.call.car, .int .i64 a.call.state, .int .i64 a.call.owner, .int .i64 a.call.born, .int .i64 a.id, .int .i64 a.car, .int .i64 a.mode, .int .i64 a.filter.kind, .int .i64 a.filter.n] := hdep ⟨0, .data⟩ (by simp) rfl
      have g44 : (a'.tmps[44]?).getD undef = .agg #[.int .i64 a.kind, .int .i64 a.seq, .int .i64 a.who, .int .i64 a.role, .int .u32 a.token, .int .u64 a.key, .int .i64 a.call.id, .int .i64 a.call.kind, .int .i64 a.call.src, .int .i64 a.call.dst, .int .i64 a.call.car, .int .i64 a.call.state, .int .i64 a.call.owner, .int .i64 a.call.born, .int .i64 a.id, .int .i64 a.car, .int .i64 a.mode, .int .i64 a.filter.kind, .int .i64 a.filter.n] := by rw [← Array.getD_eq_getD_getElem?]; exact e44
      refine wpList_step fun K hK => ?_
      rw [if_pos hwant]
      refine Inv.wp_call 27 #[.agg #[.int .i64 a.kind, .int .i64 a.seq, .int .i64 a.who, .int .i64 a.role, .int .u32 a.token, .int .u64 a.key, .int .i64 a.call.id, .int .i64 a.call.kind, .int .i64 a.call.src, .int .i64 a.call.dst, .int .i64 a.call.car, .int .i64 a.call.state, .int .i64 a.call.owner, .int .i64 a.call.born, .int .i64 a.id, .int .i64 a.car, .int .i64 a.mode, .int .i64 a.filter.kind, .int .i64 a.filter.n]] (by simp only [execOp]; go_simp) (askC a HA w') ?_
      rintro e w2 ⟨rfl, ho⟩
      exact ⟨_, rfl, hK _ _ (hQ _ (Lib.hid (H.out.quiet ho)))⟩
    | 2, ho =>
      injection ho with ho
      subst ho
      have e5 : a'.eval (.tmp 5) = .pointer (some ⟨b5, 0, none⟩) := (hfr.old 5 (by kernel_rfl)).trans rfl
      have g5 : (a'.tmps[5]?).getD undef = .pointer (some ⟨b5, 0, none⟩) := by rw [← Array.getD_eq_getD_getElem?]; exact e5
      refine hpA_load tymsg_Request H rfl e5 hwant (by (repeat (first | exact List.Mem.head _ | apply List.Mem.tail))) rfl rfl ?_
      exact hQ _ H
    | 3, ho =>
      injection ho with ho
      subst ho
      have e46 : a'.eval (.tmp 46) = .agg #[.int .i64 b.kind, .int .i64 b.seq, .int .i64 b.who, .int .i64 b.role, .int .u32 b.token, .int .u64 b.key, .int .i64 b.call.id, .int .i64 b.call.kind, .int .i64 b.call.src, .int .i64 b.call.dst, .int .i64 b.call.car, .int .i64 b.call.state, .int .i64 b.call.owner, .int .i64 b.call.born, .int .i64 b.id, .int .i64 b.car, .int .i64 b.mode, .int .i64 b.filter.kind, .int .i64 b.filter.n] := hdep ⟨2, .data⟩ (by simp) rfl
      have g46 : (a'.tmps[46]?).getD undef = .agg #[.int .i64 b.kind, .int .i64 b.seq, .int .i64 b.who, .int .i64 b.role, .int .u32 b.token, .int .u64 b.key, .int .i64 b.call.id, .int .i64 b.call.kind, .int .i64 b.call.src, .int .i64 b.call.dst, .int .i64 b.call.car, .int .i64 b.call.state, .int .i64 b.call.owner, .int .i64 b.call.born, .int .i64 b.id, .int .i64 b.car, .int .i64 b.mode, .int .i64 b.filter.kind, .int .i64 b.filter.n] := by rw [← Array.getD_eq_getD_getElem?]; exact e46
      refine wpList_step fun K hK => ?_
      rw [if_pos hwant]
      refine Inv.wp_call 27 #[.agg #[.int .i64 b.kind, .int .i64 b.seq, .int .i64 b.who, .int .i64 b.role, .int .u32 b.token, .int .u64 b.key, .int .i64 b.call.id, .int .i64 b.call.kind, .int .i64 b.call.src, .int .i64 b.call.dst, .int .i64 b.call.car, .int .i64 b.call.state, .int .i64 b.call.owner, .int .i64 b.call.born, .int .i64 b.id, .int .i64 b.car, .int .i64 b.mode, .int .i64 b.filter.kind, .int .i64 b.filter.n]] (by simp only [execOp]; go_simp) (askC b HB w') ?_
      rintro e w2 ⟨rfl, ho⟩
      exact ⟨_, rfl, hK _ _ (hQ _ (Lib.hid (H.out.quiet ho)))⟩
    | 4, ho =>
      injection ho with ho
      subst ho
      have e45 : a'.eval (.tmp 45) = .string (askV a) := hdep ⟨1, .data⟩ (by simp) rfl
      have g45 : (a'.tmps[45]?).getD undef = .string (askV a) := by rw [← Array.getD_eq_getD_getElem?]; exact e45
      have e47 : a'.eval (.tmp 47) = .string (askV b) := hdep ⟨3, .data⟩ (by simp) rfl
      have g47 : (a'.tmps[47]?).getD undef = .string (askV b) := by rw [← Array.getD_eq_getD_getElem?]; exact e47
      refine wpList_step fun K hK => ?_
      rw [if_pos hwant]
      exact Inv.wp_val (.bool (sameReq (withV a 0 0) (withV b 0 0))) (by simp only [execOp]; go_simp) (hK _ _ (hQ _ H))
    | 5, ho =>
      injection ho with ho
      subst ho
      have e13 : a'.eval (.tmp 13) = .pointer (some ⟨b13, 0, none⟩) := (hfr.old 13 (by kernel_rfl)).trans rfl
      have g13 : (a'.tmps[13]?).getD undef = .pointer (some ⟨b13, 0, none⟩) := by rw [← Array.getD_eq_getD_getElem?]; exact e13
      refine hpA_load tymsg_Request H rfl e13 hwant (by (repeat (first | exact List.Mem.head _ | apply List.Mem.tail))) rfl rfl ?_
      exact hQ _ H
    | 6, ho =>
      injection ho with ho
      subst ho
      have e14 : a'.eval (.tmp 14) = .pointer (some ⟨b14, 0, none⟩) := (hfr.old 14 (by kernel_rfl)).trans rfl
      have g14 : (a'.tmps[14]?).getD undef = .pointer (some ⟨b14, 0, none⟩) := by rw [← Array.getD_eq_getD_getElem?]; exact e14
      refine hpA_load tymsg_Request H rfl e14 hwant (by (repeat (first | exact List.Mem.head _ | apply List.Mem.tail))) rfl rfl ?_
      exact hQ _ H
    | 7, ho =>
      injection ho with ho
      subst ho
      have e49 : a'.eval (.tmp 49) = .agg #[.int .i64 a.kind, .int .i64 0, .int .i64 a.who, .int .i64 a.role, .int .u32 a.token, .int .u64 0, .int .i64 a.call.id, .int .i64 a.call.kind, .int .i64 a.call.src, .int .i64 a.call.dst, .int .i64 a.call.car, .int .i64 a.call.state, .int .i64 a.call.owner, .int .i64 a.call.born, .int .i64 a.id, .int .i64 a.car, .int .i64 a.mode, .int .i64 a.filter.kind, .int .i64 a.filter.n] := hdep ⟨5, .data⟩ (by simp) rfl
      have g49 : (a'.tmps[49]?).getD undef = .agg #[.int .i64 a.kind, .int .i64 0, .int .i64 a.who, .int .i64 a.role, .int .u32 a.token, .int .u64 0, .int .i64 a.call.id, .int .i64 a.call.kind, .int .i64 a.call.src, .int .i64 a.call.dst, .int .i64 a.call.car, .int .i64 a.call.state, .int .i64 a.call.owner, .int .i64 a.call.born, .int .i64 a.id, .int .i64 a.car, .int .i64 a.mode, .int .i64 a.filter.kind, .int .i64 a.filter.n] := by rw [← Array.getD_eq_getD_getElem?]; exact e49
      have e50 : a'.eval (.tmp 50) = .agg #[.int .i64 b.kind, .int .i64 0, .int .i64 b.who, .int .i64 b.role, .int .u32 b.token, .int .u64 0, .int .i64 b.call.id, .int .i64 b.call.kind, .int .i64 b.call.src, .int .i64 b.call.dst, .int .i64 b.call.car, .int .i64 b.call.state, .int .i64 b.call.owner, .int .i64 b.call.born, .int .i64 b.id, .int .i64 b.car, .int .i64 b.mode, .int .i64 b.filter.kind, .int .i64 b.filter.n] := hdep ⟨6, .data⟩ (by simp) rfl
      have g50 : (a'.tmps[50]?).getD undef = .agg #[.int .i64 b.kind, .int .i64 0, .int .i64 b.who, .int .i64 b.role, .int .u32 b.token, .int .u64 0, .int .i64 b.call.id, .int .i64 b.call.kind, .int .i64 b.call.src, .int .i64 b.call.dst, .int .i64 b.call.car, .int .i64 b.call.state, .int .i64 b.call.owner, .int .i64 b.call.born, .int .i64 b.id, .int .i64 b.car, .int .i64 b.mode, .int .i64 b.filter.kind, .int .i64 b.filter.n] := by rw [← Array.getD_eq_getD_getElem?]; exact e50
      refine eqlR rfl hwant e49 e50 ?_
      exact hQ _ H
    | 8, ho =>
      injection ho with ho
      subst ho
      have e48 : a'.eval (.tmp 48) = .bool (sameReq (withV a 0 0) (withV b 0 0)) := hdep ⟨4, .data⟩ (by simp) rfl
      have g48 : (a'.tmps[48]?).getD undef = .bool (sameReq (withV a 0 0) (withV b 0 0)) := by rw [← Array.getD_eq_getD_getElem?]; exact e48
      have e51 : a'.eval (.tmp 51) = .bool (sameReq (withV a 0 0) (withV b 0 0)) := hdep ⟨7, .data⟩ (by simp) rfl
      have g51 : (a'.tmps[51]?).getD undef = .bool (sameReq (withV a 0 0) (withV b 0 0)) := by rw [← Array.getD_eq_getD_getElem?]; exact e51
      refine wpList_step fun K hK => ?_
      rw [if_pos hwant]
      exact Inv.wp_val (.bool false) (by simp only [execOp]; go_simp) (hK _ _ (hQ _ H))
    | 9, ho =>
      injection ho with ho
      subst ho
      have e52 : a'.eval (.tmp 52) = .bool false := hdep ⟨8, .data⟩ (by simp) rfl
      have g52 : (a'.tmps[52]?).getD undef = .bool false := by rw [← Array.getD_eq_getD_getElem?]; exact e52
      refine wpList_step fun K hK => ?_
      rw [if_pos hwant]
      exact Inv.wp_val (.bool false) (by simp only [execOp]; go_simp) (hK _ _ (hQ _ H))
    | 10, ho =>
      injection ho with ho
      subst ho
      have e4 : a'.eval (.tmp 4) = .pointer (some ⟨b4, 0, none⟩) := (hfr.old 4 (by kernel_rfl)).trans rfl
      have g4 : (a'.tmps[4]?).getD undef = .pointer (some ⟨b4, 0, none⟩) := by rw [← Array.getD_eq_getD_getElem?]; exact e4
      refine hpA_load tymsg_Request H rfl e4 hwant (by (repeat (first | exact List.Mem.head _ | apply List.Mem.tail))) rfl rfl ?_
      exact hQ _ H
    | 11, ho =>
      injection ho with ho
      subst ho
      have e54 : a'.eval (.tmp 54) = .agg #[.int .i64 a.kind, .int .i64 a.seq, .int .i64 a.who, .int .i64 a.role, .int .u32 a.token, .int .u64 a.key, .int .i64 a.call.id, .int .i64 a.call.kind, .int .i64 a.call.src, .int .i64 a.call.dst, .int .i64 a.call.car, .int .i64 a.call.state, .int .i64 a.call.owner, .int .i64 a.call.born, .int .i64 a.id, .int .i64 a.car, .int .i64 a.mode, .int .i64 a.filter.kind, .int .i64 a.filter.n] := hdep ⟨10, .data⟩ (by simp) rfl
      have g54 : (a'.tmps[54]?).getD undef = .agg #[.int .i64 a.kind, .int .i64 a.seq, .int .i64 a.who, .int .i64 a.role, .int .u32 a.token, .int .u64 a.key, .int .i64 a.call.id, .int .i64 a.call.kind, .int .i64 a.call.src, .int .i64 a.call.dst, .int .i64 a.call.car, .int .i64 a.call.state, .int .i64 a.call.owner, .int .i64 a.call.born, .int .i64 a.id, .int .i64 a.car, .int .i64 a.mode, .int .i64 a.filter.kind, .int .i64 a.filter.n] := by rw [← Array.getD_eq_getD_getElem?]; exact e54
      refine wpList_step fun K hK => ?_
      rw [if_pos hwant]
      refine Inv.wp_call 27 #[.agg #[.int .i64 a.kind, .int .i64 a.seq, .int .i64 a.who, .int .i64 a.role, .int .u32 a.token, .int .u64 a.key, .int .i64 a.call.id, .int .i64 a.call.kind, .int .i64 a.call.src, .int .i64 a.call.dst, .int .i64 a.call.car, .int .i64 a.call.state, .int .i64 a.call.owner, .int .i64 a.call.born, .int .i64 a.id, .int .i64 a.car, .int .i64 a.mode, .int .i64 a.filter.kind, .int .i64 a.filter.n]] (by simp only [execOp]; go_simp) (askC a HA w') ?_
      rintro e w2 ⟨rfl, ho⟩
      exact ⟨_, rfl, hK _ _ (hQ _ (Lib.hid (H.out.quiet ho)))⟩
    | 12, ho =>
      injection ho with ho
      subst ho
      have e55 : a'.eval (.tmp 55) = .string (askV a) := hdep ⟨11, .data⟩ (by simp) rfl
      have g55 : (a'.tmps[55]?).getD undef = .string (askV a) := by rw [← Array.getD_eq_getD_getElem?]; exact e55
      refine wpList_step fun K hK => ?_
      rw [if_pos hwant]
      exact Inv.wp_val (.bool false) (by simp only [execOp]; go_simp) (hK _ _ (hQ _ H))
    | 13, ho =>
      injection ho with ho
      subst ho
      have e53 : a'.eval (.tmp 53) = .bool false := hdep ⟨9, .data⟩ (by simp) rfl
      have g53 : (a'.tmps[53]?).getD undef = .bool false := by rw [← Array.getD_eq_getD_getElem?]; exact e53
      have e56 : a'.eval (.tmp 56) = .bool false := hdep ⟨12, .data⟩ (by simp) rfl
      have g56 : (a'.tmps[56]?).getD undef = .bool false := by rw [← Array.getD_eq_getD_getElem?]; exact e56
      refine wpList_step fun K hK => ?_
      rw [if_pos hwant]
      exact Inv.wp_val (.bool false) (by simp only [execOp]; go_simp) (hK _ _ (hQ _ H))
    | _ + 14, ho => simp at ho
  · intro i o ho a' hdep hwant
    exfalso
    match i, ho with
    | 0, ho =>
      injection ho with ho
      subst ho
      simp [Region.wanted] at hwant
    | 1, ho =>
      injection ho with ho
      subst ho
      simp [Region.wanted] at hwant
    | 2, ho =>
      injection ho with ho
      subst ho
      simp [Region.wanted] at hwant
    | 3, ho =>
      injection ho with ho
      subst ho
      simp [Region.wanted] at hwant
    | 4, ho =>
      injection ho with ho
      subst ho
      simp [Region.wanted] at hwant
    | 5, ho =>
      injection ho with ho
      subst ho
      simp [Region.wanted] at hwant
    | 6, ho =>
      injection ho with ho
      subst ho
      simp [Region.wanted] at hwant
    | 7, ho =>
      injection ho with ho
      subst ho
      simp [Region.wanted] at hwant
    | 8, ho =>
      injection ho with ho
      subst ho
      simp [Region.wanted] at hwant
    | 9, ho =>
      injection ho with ho
      subst ho
      simp [Region.wanted] at hwant
    | 10, ho =>
      injection ho with ho
      subst ho
      have eg : a'.tmps.getD 53 undef = .bool false := hdep ⟨9, .guard⟩ (by simp) rfl
      rw [Array.getD_eq_getD_getElem?] at eg
      have eh := got_bool eg
      simp [Region.wanted, yielded, eh] at hwant
    | 11, ho =>
      injection ho with ho
      subst ho
      have eg : a'.tmps.getD 53 undef = .bool false := hdep ⟨9, .guard⟩ (by simp) rfl
      rw [Array.getD_eq_getD_getElem?] at eg
      have eh := got_bool eg
      simp [Region.wanted, yielded, eh] at hwant
    | 12, ho =>
      injection ho with ho
      subst ho
      have eg : a'.tmps.getD 53 undef = .bool false := hdep ⟨9, .guard⟩ (by simp) rfl
      rw [Array.getD_eq_getD_getElem?] at eg
      have eh := got_bool eg
      simp [Region.wanted, yielded, eh] at hwant
    | 13, ho =>
      injection ho with ho
      subst ho
      simp [Region.wanted] at hwant
    | _ + 14, ho => simp at ho
  · clear H
    intro w5 H
    simp only [List.size_toArray, List.length_cons, List.length_nil, Nat.reduceAdd, Inv.putAll, Inv.dstAt, List.getElem?_toArray, List.getElem?_cons_zero, List.getElem?_cons_succ, Option.bind_some, Act.put, List.setIfInBounds_toArray, List.set_cons_zero, List.set_cons_succ]
    go_upto_region 17 with (first
      | ((with_reducible apply g_mem); (focus (exact rfl)); first
      | ((with_reducible apply hpN_box 29 4 H); (focus (exact rfl)); (focus (exact rfl)); (focus (exact rfl)); (focus (exact rfl)); (focus (exact rfl)); intro w5 b4 H5; clear H; have H := H5; clear H5)
      | ((with_reducible apply hpN_box 29 5 H); (focus (exact rfl)); (focus (exact rfl)); (focus (exact rfl)); (focus (exact rfl)); (focus (exact rfl)); intro w5 b5 H5; clear H; have H := H5; clear H5)
      | ((with_reducible apply hpA_load tymsg_Request H); (focus (exact rfl)); (focus (exact rfl)); (focus (first | (exact rfl) | (simp [Region.wanted]; done) | (simp only [Region.wanted]; go_simp; done))); (focus (repeat (first | exact List.Mem.head _ | apply List.Mem.tail))); (focus ((try simp only [List.drop_zero, List.drop_succ_cons, List.take_succ_cons, List.take_zero]); exact rfl)); (focus (exact rfl)))
      | ((with_reducible apply hpN_alloc tymsg_Request 13 H); (focus (exact rfl)); (focus (exact rfl)); (focus (exact rfl)); intro w5 b13 H5; clear H; have H := H5; clear H5)
      | ((with_reducible apply hpA_store tymsg_Request H); (focus (exact rfl)); (focus (exact rfl)); (focus (exact rfl)); (focus (exact rfl)); (focus (exact rfl)); (focus (repeat (first | apply Put.head | apply Put.tail))); (focus (first | (simp; done) | (simp [*]; done) | (simp [Value.oneCell']; done))); (focus (first | (simp; done) | (simp [*]; done) | (simp [Value.oneCell']; done))); (focus ((try simp only [spl]); exact rfl)); (focus (exact rfl)); intro w5 H5; clear H; have H := H5; clear H5)
      | ((with_reducible apply hpN_alloc tymsg_Request 14 H); (focus (exact rfl)); (focus (exact rfl)); (focus (exact rfl)); intro w5 b14 H5; clear H; have H := H5; clear H5)
      | ((with_reducible apply hpA_store1 tyint H); (focus (exact rfl)); (focus (exact rfl)); (focus (exact rfl)); (focus (first | (go_simp; exact rfl) | exact rfl)); (focus (exact rfl)); (focus (repeat (first | apply Put.head | apply Put.tail))); (focus (first | (simp; done) | (simp [*]; done) | (simp [Value.oneCell']; done))); (focus (first | (simp; done) | (simp [*]; done) | (simp [Value.oneCell']; done))); (focus ((try simp only [List.set_cons_zero, List.set_cons_succ]); exact rfl)); (focus (exact rfl)); intro w5 H5; clear H; have H := H5; clear H5)
      | ((with_reducible apply hpA_store1 tyuint64 H); (focus (exact rfl)); (focus (exact rfl)); (focus (exact rfl)); (focus (first | (go_simp; exact rfl) | exact rfl)); (focus (exact rfl)); (focus (repeat (first | apply Put.head | apply Put.tail))); (focus (first | (simp; done) | (simp [*]; done) | (simp [Value.oneCell']; done))); (focus (first | (simp; done) | (simp [*]; done) | (simp [Value.oneCell']; done))); (focus ((try simp only [List.set_cons_zero, List.set_cons_succ]); exact rfl)); (focus (exact rfl)); intro w5 H5; clear H; have H := H5; clear H5)
      | ((with_reducible apply hpN_alloc tymsg_Request 15 H); (focus (exact rfl)); (focus (exact rfl)); (focus (exact rfl)); intro w5 b15 H5; clear H; have H := H5; clear H5)
      | ((with_reducible apply hpA_load1 tyint H); (focus (exact rfl)); (focus (exact rfl)); (focus (first | (exact rfl) | (simp [Region.wanted]; done) | (simp only [Region.wanted]; go_simp; done))); (focus (repeat (first | exact List.Mem.head _ | apply List.Mem.tail))); (focus ((try simp only [List.getElem?_cons_zero, List.getElem?_cons_succ]); exact rfl))))
      | (go_at_call 11; (with_reducible refine (awake14 _).mono ?_); rintro e w5 ⟨rfl, ho⟩; have H5 := Lib.hid (H.out.quiet ho); clear H ho; have H := H5; clear H5)
      | (go_at_call 14; (with_reducible refine (encodeC a HA _).mono ?_); rintro e w5 ⟨rfl, ho⟩; have H5 := Lib.hid (H.out.quiet ho); clear H ho; have H := H5; clear H5)
      | (go_at_call 14; (with_reducible refine (encodeC b HB _).mono ?_); rintro e w5 ⟨rfl, ho⟩; have H5 := Lib.hid (H.out.quiet ho); clear H ho; have H := H5; clear H5)
      | (go_at_call 27; (with_reducible refine (askC a HA _).mono ?_); rintro e w5 ⟨rfl, ho⟩; have H5 := Lib.hid (H.out.quiet ho); clear H ho; have H := H5; clear H5)
      | (go_at_call 27; (with_reducible refine (askC b HB _).mono ?_); rintro e w5 ⟨rfl, ho⟩; have H5 := Lib.hid (H.out.quiet ho); clear H ho; have H := H5; clear H5)
      | (go_at_call 27; (with_reducible refine (askZ2 a n k HZ1 _).mono ?_); rintro e w5 ⟨rfl, ho⟩; have H5 := Lib.hid (H.out.quiet ho); clear H ho; have H := H5; clear H5)
      | (go_at_call 27; (with_reducible refine (askZ2 a n a.key HZ2 _).mono ?_); rintro e w5 ⟨rfl, ho⟩; have H5 := Lib.hid (H.out.quiet ho); clear H ho; have H := H5; clear H5)
      | (go_at_call 24; (with_reducible refine (writes a _).mono ?_); rintro e w5 ⟨rfl, ho⟩; have H5 := Lib.hid (H.out.quiet ho); clear H ho; have H := H5; clear H5)
      | (go_at_call 24; (with_reducible refine (writesZ2 a n k _).mono ?_); rintro e w5 ⟨rfl, ho⟩; have H5 := Lib.hid (H.out.quiet ho); clear H ho; have H := H5; clear H5)
      | (go_at_call 24; (with_reducible refine (writesZ2 a n a.key _).mono ?_); rintro e w5 ⟨rfl, ho⟩; have H5 := Lib.hid (H.out.quiet ho); clear H ho; have H := H5; clear H5)
      | ((with_reducible apply eqlR); (focus (exact rfl)); (focus (first | (exact rfl) | (simp [Region.wanted]; done) | (simp only [Region.wanted]; go_simp; done))); (focus (exact rfl)); (focus (exact rfl))))
    clear s1 s2
    rcases Bool.eq_false_or_eq_true (decide (n < 0)) with q5 | q5
    · have z : askV (withV a n a.key) = ⟨#[]⟩ := ask_out HA.out n a.key (by unfold isCountV; simp at q5 ⊢; omega) HA.out.2
      go_wp2_with (first
        | ((with_reducible apply g_mem); (focus (exact rfl)); first
      | ((with_reducible apply hpN_box 29 4 H); (focus (exact rfl)); (focus (exact rfl)); (focus (exact rfl)); (focus (exact rfl)); (focus (exact rfl)); intro w5 b4 H5; clear H; have H := H5; clear H5)
      | ((with_reducible apply hpN_box 29 5 H); (focus (exact rfl)); (focus (exact rfl)); (focus (exact rfl)); (focus (exact rfl)); (focus (exact rfl)); intro w5 b5 H5; clear H; have H := H5; clear H5)
      | ((with_reducible apply hpA_load tymsg_Request H); (focus (exact rfl)); (focus (exact rfl)); (focus (first | (exact rfl) | (simp [Region.wanted]; done) | (simp only [Region.wanted]; go_simp; done))); (focus (repeat (first | exact List.Mem.head _ | apply List.Mem.tail))); (focus ((try simp only [List.drop_zero, List.drop_succ_cons, List.take_succ_cons, List.take_zero]); exact rfl)); (focus (exact rfl)))
      | ((with_reducible apply hpN_alloc tymsg_Request 13 H); (focus (exact rfl)); (focus (exact rfl)); (focus (exact rfl)); intro w5 b13 H5; clear H; have H := H5; clear H5)
      | ((with_reducible apply hpA_store tymsg_Request H); (focus (exact rfl)); (focus (exact rfl)); (focus (exact rfl)); (focus (exact rfl)); (focus (exact rfl)); (focus (repeat (first | apply Put.head | apply Put.tail))); (focus (first | (simp; done) | (simp [*]; done) | (simp [Value.oneCell']; done))); (focus (first | (simp; done) | (simp [*]; done) | (simp [Value.oneCell']; done))); (focus ((try simp only [spl]); exact rfl)); (focus (exact rfl)); intro w5 H5; clear H; have H := H5; clear H5)
      | ((with_reducible apply hpN_alloc tymsg_Request 14 H); (focus (exact rfl)); (focus (exact rfl)); (focus (exact rfl)); intro w5 b14 H5; clear H; have H := H5; clear H5)
      | ((with_reducible apply hpA_store1 tyint H); (focus (exact rfl)); (focus (exact rfl)); (focus (exact rfl)); (focus (first | (go_simp; exact rfl) | exact rfl)); (focus (exact rfl)); (focus (repeat (first | apply Put.head | apply Put.tail))); (focus (first | (simp; done) | (simp [*]; done) | (simp [Value.oneCell']; done))); (focus (first | (simp; done) | (simp [*]; done) | (simp [Value.oneCell']; done))); (focus ((try simp only [List.set_cons_zero, List.set_cons_succ]); exact rfl)); (focus (exact rfl)); intro w5 H5; clear H; have H := H5; clear H5)
      | ((with_reducible apply hpA_store1 tyuint64 H); (focus (exact rfl)); (focus (exact rfl)); (focus (exact rfl)); (focus (first | (go_simp; exact rfl) | exact rfl)); (focus (exact rfl)); (focus (repeat (first | apply Put.head | apply Put.tail))); (focus (first | (simp; done) | (simp [*]; done) | (simp [Value.oneCell']; done))); (focus (first | (simp; done) | (simp [*]; done) | (simp [Value.oneCell']; done))); (focus ((try simp only [List.set_cons_zero, List.set_cons_succ]); exact rfl)); (focus (exact rfl)); intro w5 H5; clear H; have H := H5; clear H5)
      | ((with_reducible apply hpN_alloc tymsg_Request 15 H); (focus (exact rfl)); (focus (exact rfl)); (focus (exact rfl)); intro w5 b15 H5; clear H; have H := H5; clear H5)
      | ((with_reducible apply hpA_load1 tyint H); (focus (exact rfl)); (focus (exact rfl)); (focus (first | (exact rfl) | (simp [Region.wanted]; done) | (simp only [Region.wanted]; go_simp; done))); (focus (repeat (first | exact List.Mem.head _ | apply List.Mem.tail))); (focus ((try simp only [List.getElem?_cons_zero, List.getElem?_cons_succ]); exact rfl))))
        | (go_at_call 11; (with_reducible refine (awake14 _).mono ?_); rintro e w5 ⟨rfl, ho⟩; have H5 := Lib.hid (H.out.quiet ho); clear H ho; have H := H5; clear H5)
        | (go_at_call 14; (with_reducible refine (encodeC a HA _).mono ?_); rintro e w5 ⟨rfl, ho⟩; have H5 := Lib.hid (H.out.quiet ho); clear H ho; have H := H5; clear H5)
        | (go_at_call 14; (with_reducible refine (encodeC b HB _).mono ?_); rintro e w5 ⟨rfl, ho⟩; have H5 := Lib.hid (H.out.quiet ho); clear H ho; have H := H5; clear H5)
        | (go_at_call 27; (with_reducible refine (askC a HA _).mono ?_); rintro e w5 ⟨rfl, ho⟩; have H5 := Lib.hid (H.out.quiet ho); clear H ho; have H := H5; clear H5)
        | (go_at_call 27; (with_reducible refine (askC b HB _).mono ?_); rintro e w5 ⟨rfl, ho⟩; have H5 := Lib.hid (H.out.quiet ho); clear H ho; have H := H5; clear H5)
        | (go_at_call 27; (with_reducible refine (askZ2 a n k HZ1 _).mono ?_); rintro e w5 ⟨rfl, ho⟩; have H5 := Lib.hid (H.out.quiet ho); clear H ho; have H := H5; clear H5)
        | (go_at_call 27; (with_reducible refine (askZ2 a n a.key HZ2 _).mono ?_); rintro e w5 ⟨rfl, ho⟩; have H5 := Lib.hid (H.out.quiet ho); clear H ho; have H := H5; clear H5)
        | (go_at_call 24; (with_reducible refine (writes a _).mono ?_); rintro e w5 ⟨rfl, ho⟩; have H5 := Lib.hid (H.out.quiet ho); clear H ho; have H := H5; clear H5)
        | (go_at_call 24; (with_reducible refine (writesZ2 a n k _).mono ?_); rintro e w5 ⟨rfl, ho⟩; have H5 := Lib.hid (H.out.quiet ho); clear H ho; have H := H5; clear H5)
        | (go_at_call 24; (with_reducible refine (writesZ2 a n a.key _).mono ?_); rintro e w5 ⟨rfl, ho⟩; have H5 := Lib.hid (H.out.quiet ho); clear H ho; have H := H5; clear H5)
        | ((with_reducible apply eqlR); (focus (exact rfl)); (focus (first | (exact rfl) | (simp [Region.wanted]; done) | (simp only [Region.wanted]; go_simp; done))); (focus (exact rfl)); (focus (exact rfl))))
      go_ret
      exact ⟨rfl, H.out.off⟩
    rcases Bool.eq_false_or_eq_true (decide (1073741824 < n)) with q6 | q6
    · have z : askV (withV a n a.key) = ⟨#[]⟩ := ask_out HA.out n a.key (by unfold isCountV; simp at q6 ⊢; omega) HA.out.2
      go_wp2_with (first
        | ((with_reducible apply g_mem); (focus (exact rfl)); first
      | ((with_reducible apply hpN_box 29 4 H); (focus (exact rfl)); (focus (exact rfl)); (focus (exact rfl)); (focus (exact rfl)); (focus (exact rfl)); intro w5 b4 H5; clear H; have H := H5; clear H5)
      | ((with_reducible apply hpN_box 29 5 H); (focus (exact rfl)); (focus (exact rfl)); (focus (exact rfl)); (focus (exact rfl)); (focus (exact rfl)); intro w5 b5 H5; clear H; have H := H5; clear H5)
      | ((with_reducible apply hpA_load tymsg_Request H); (focus (exact rfl)); (focus (exact rfl)); (focus (first | (exact rfl) | (simp [Region.wanted]; done) | (simp only [Region.wanted]; go_simp; done))); (focus (repeat (first | exact List.Mem.head _ | apply List.Mem.tail))); (focus ((try simp only [List.drop_zero, List.drop_succ_cons, List.take_succ_cons, List.take_zero]); exact rfl)); (focus (exact rfl)))
      | ((with_reducible apply hpN_alloc tymsg_Request 13 H); (focus (exact rfl)); (focus (exact rfl)); (focus (exact rfl)); intro w5 b13 H5; clear H; have H := H5; clear H5)
      | ((with_reducible apply hpA_store tymsg_Request H); (focus (exact rfl)); (focus (exact rfl)); (focus (exact rfl)); (focus (exact rfl)); (focus (exact rfl)); (focus (repeat (first | apply Put.head | apply Put.tail))); (focus (first | (simp; done) | (simp [*]; done) | (simp [Value.oneCell']; done))); (focus (first | (simp; done) | (simp [*]; done) | (simp [Value.oneCell']; done))); (focus ((try simp only [spl]); exact rfl)); (focus (exact rfl)); intro w5 H5; clear H; have H := H5; clear H5)
      | ((with_reducible apply hpN_alloc tymsg_Request 14 H); (focus (exact rfl)); (focus (exact rfl)); (focus (exact rfl)); intro w5 b14 H5; clear H; have H := H5; clear H5)
      | ((with_reducible apply hpA_store1 tyint H); (focus (exact rfl)); (focus (exact rfl)); (focus (exact rfl)); (focus (first | (go_simp; exact rfl) | exact rfl)); (focus (exact rfl)); (focus (repeat (first | apply Put.head | apply Put.tail))); (focus (first | (simp; done) | (simp [*]; done) | (simp [Value.oneCell']; done))); (focus (first | (simp; done) | (simp [*]; done) | (simp [Value.oneCell']; done))); (focus ((try simp only [List.set_cons_zero, List.set_cons_succ]); exact rfl)); (focus (exact rfl)); intro w5 H5; clear H; have H := H5; clear H5)
      | ((with_reducible apply hpA_store1 tyuint64 H); (focus (exact rfl)); (focus (exact rfl)); (focus (exact rfl)); (focus (first | (go_simp; exact rfl) | exact rfl)); (focus (exact rfl)); (focus (repeat (first | apply Put.head | apply Put.tail))); (focus (first | (simp; done) | (simp [*]; done) | (simp [Value.oneCell']; done))); (focus (first | (simp; done) | (simp [*]; done) | (simp [Value.oneCell']; done))); (focus ((try simp only [List.set_cons_zero, List.set_cons_succ]); exact rfl)); (focus (exact rfl)); intro w5 H5; clear H; have H := H5; clear H5)
      | ((with_reducible apply hpN_alloc tymsg_Request 15 H); (focus (exact rfl)); (focus (exact rfl)); (focus (exact rfl)); intro w5 b15 H5; clear H; have H := H5; clear H5)
      | ((with_reducible apply hpA_load1 tyint H); (focus (exact rfl)); (focus (exact rfl)); (focus (first | (exact rfl) | (simp [Region.wanted]; done) | (simp only [Region.wanted]; go_simp; done))); (focus (repeat (first | exact List.Mem.head _ | apply List.Mem.tail))); (focus ((try simp only [List.getElem?_cons_zero, List.getElem?_cons_succ]); exact rfl))))
        | (go_at_call 11; (with_reducible refine (awake14 _).mono ?_); rintro e w5 ⟨rfl, ho⟩; have H5 := Lib.hid (H.out.quiet ho); clear H ho; have H := H5; clear H5)
        | (go_at_call 14; (with_reducible refine (encodeC a HA _).mono ?_); rintro e w5 ⟨rfl, ho⟩; have H5 := Lib.hid (H.out.quiet ho); clear H ho; have H := H5; clear H5)
        | (go_at_call 14; (with_reducible refine (encodeC b HB _).mono ?_); rintro e w5 ⟨rfl, ho⟩; have H5 := Lib.hid (H.out.quiet ho); clear H ho; have H := H5; clear H5)
        | (go_at_call 27; (with_reducible refine (askC a HA _).mono ?_); rintro e w5 ⟨rfl, ho⟩; have H5 := Lib.hid (H.out.quiet ho); clear H ho; have H := H5; clear H5)
        | (go_at_call 27; (with_reducible refine (askC b HB _).mono ?_); rintro e w5 ⟨rfl, ho⟩; have H5 := Lib.hid (H.out.quiet ho); clear H ho; have H := H5; clear H5)
        | (go_at_call 27; (with_reducible refine (askZ2 a n k HZ1 _).mono ?_); rintro e w5 ⟨rfl, ho⟩; have H5 := Lib.hid (H.out.quiet ho); clear H ho; have H := H5; clear H5)
        | (go_at_call 27; (with_reducible refine (askZ2 a n a.key HZ2 _).mono ?_); rintro e w5 ⟨rfl, ho⟩; have H5 := Lib.hid (H.out.quiet ho); clear H ho; have H := H5; clear H5)
        | (go_at_call 24; (with_reducible refine (writes a _).mono ?_); rintro e w5 ⟨rfl, ho⟩; have H5 := Lib.hid (H.out.quiet ho); clear H ho; have H := H5; clear H5)
        | (go_at_call 24; (with_reducible refine (writesZ2 a n k _).mono ?_); rintro e w5 ⟨rfl, ho⟩; have H5 := Lib.hid (H.out.quiet ho); clear H ho; have H := H5; clear H5)
        | (go_at_call 24; (with_reducible refine (writesZ2 a n a.key _).mono ?_); rintro e w5 ⟨rfl, ho⟩; have H5 := Lib.hid (H.out.quiet ho); clear H ho; have H := H5; clear H5)
        | ((with_reducible apply eqlR); (focus (exact rfl)); (focus (first | (exact rfl) | (simp [Region.wanted]; done) | (simp only [Region.wanted]; go_simp; done))); (focus (exact rfl)); (focus (exact rfl))))
      go_ret
      exact ⟨rfl, H.out.off⟩
    have z : askV (withV a n a.key) = askV a := ask_with HA.out o1.out n a.key (by unfold isCountV; simp at q5 q6 ⊢; omega) HA.out.2 (.inr (.inl rfl))
    go_upto_region 23 with (first
      | ((with_reducible apply g_mem); (focus (exact rfl)); first
      | ((with_reducible apply hpN_box 29 4 H); (focus (exact rfl)); (focus (exact rfl)); (focus (exact rfl)); (focus (exact rfl)); (focus (exact rfl)); intro w5 b4 H5; clear H; have H := H5; clear H5)
      | ((with_reducible apply hpN_box 29 5 H); (focus (exact rfl)); (focus (exact rfl)); (focus (exact rfl)); (focus (exact rfl)); (focus (exact rfl)); intro w5 b5 H5; clear H; have H := H5; clear H5)
      | ((with_reducible apply hpA_load tymsg_Request H); (focus (exact rfl)); (focus (exact rfl)); (focus (first | (exact rfl) | (simp [Region.wanted]; done) | (simp only [Region.wanted]; go_simp; done))); (focus (repeat (first | exact List.Mem.head _ | apply List.Mem.tail))); (focus ((try simp only [List.drop_zero, List.drop_succ_cons, List.take_succ_cons, List.take_zero]); exact rfl)); (focus (exact rfl)))
      | ((with_reducible apply hpN_alloc tymsg_Request 13 H); (focus (exact rfl)); (focus (exact rfl)); (focus (exact rfl)); intro w5 b13 H5; clear H; have H := H5; clear H5)
      | ((with_reducible apply hpA_store tymsg_Request H); (focus (exact rfl)); (focus (exact rfl)); (focus (exact rfl)); (focus (exact rfl)); (focus (exact rfl)); (focus (repeat (first | apply Put.head | apply Put.tail))); (focus (first | (simp; done) | (simp [*]; done) | (simp [Value.oneCell']; done))); (focus (first | (simp; done) | (simp [*]; done) | (simp [Value.oneCell']; done))); (focus ((try simp only [spl]); exact rfl)); (focus (exact rfl)); intro w5 H5; clear H; have H := H5; clear H5)
      | ((with_reducible apply hpN_alloc tymsg_Request 14 H); (focus (exact rfl)); (focus (exact rfl)); (focus (exact rfl)); intro w5 b14 H5; clear H; have H := H5; clear H5)
      | ((with_reducible apply hpA_store1 tyint H); (focus (exact rfl)); (focus (exact rfl)); (focus (exact rfl)); (focus (first | (go_simp; exact rfl) | exact rfl)); (focus (exact rfl)); (focus (repeat (first | apply Put.head | apply Put.tail))); (focus (first | (simp; done) | (simp [*]; done) | (simp [Value.oneCell']; done))); (focus (first | (simp; done) | (simp [*]; done) | (simp [Value.oneCell']; done))); (focus ((try simp only [List.set_cons_zero, List.set_cons_succ]); exact rfl)); (focus (exact rfl)); intro w5 H5; clear H; have H := H5; clear H5)
      | ((with_reducible apply hpA_store1 tyuint64 H); (focus (exact rfl)); (focus (exact rfl)); (focus (exact rfl)); (focus (first | (go_simp; exact rfl) | exact rfl)); (focus (exact rfl)); (focus (repeat (first | apply Put.head | apply Put.tail))); (focus (first | (simp; done) | (simp [*]; done) | (simp [Value.oneCell']; done))); (focus (first | (simp; done) | (simp [*]; done) | (simp [Value.oneCell']; done))); (focus ((try simp only [List.set_cons_zero, List.set_cons_succ]); exact rfl)); (focus (exact rfl)); intro w5 H5; clear H; have H := H5; clear H5)
      | ((with_reducible apply hpN_alloc tymsg_Request 15 H); (focus (exact rfl)); (focus (exact rfl)); (focus (exact rfl)); intro w5 b15 H5; clear H; have H := H5; clear H5)
      | ((with_reducible apply hpA_load1 tyint H); (focus (exact rfl)); (focus (exact rfl)); (focus (first | (exact rfl) | (simp [Region.wanted]; done) | (simp only [Region.wanted]; go_simp; done))); (focus (repeat (first | exact List.Mem.head _ | apply List.Mem.tail))); (focus ((try simp only [List.getElem?_cons_zero, List.getElem?_cons_succ]); exact rfl))))
      | (go_at_call 11; (with_reducible refine (awake14 _).mono ?_); rintro e w5 ⟨rfl, ho⟩; have H5 := Lib.hid (H.out.quiet ho); clear H ho; have H := H5; clear H5)
      | (go_at_call 14; (with_reducible refine (encodeC a HA _).mono ?_); rintro e w5 ⟨rfl, ho⟩; have H5 := Lib.hid (H.out.quiet ho); clear H ho; have H := H5; clear H5)
      | (go_at_call 14; (with_reducible refine (encodeC b HB _).mono ?_); rintro e w5 ⟨rfl, ho⟩; have H5 := Lib.hid (H.out.quiet ho); clear H ho; have H := H5; clear H5)
      | (go_at_call 27; (with_reducible refine (askC a HA _).mono ?_); rintro e w5 ⟨rfl, ho⟩; have H5 := Lib.hid (H.out.quiet ho); clear H ho; have H := H5; clear H5)
      | (go_at_call 27; (with_reducible refine (askC b HB _).mono ?_); rintro e w5 ⟨rfl, ho⟩; have H5 := Lib.hid (H.out.quiet ho); clear H ho; have H := H5; clear H5)
      | (go_at_call 27; (with_reducible refine (askZ2 a n k HZ1 _).mono ?_); rintro e w5 ⟨rfl, ho⟩; have H5 := Lib.hid (H.out.quiet ho); clear H ho; have H := H5; clear H5)
      | (go_at_call 27; (with_reducible refine (askZ2 a n a.key HZ2 _).mono ?_); rintro e w5 ⟨rfl, ho⟩; have H5 := Lib.hid (H.out.quiet ho); clear H ho; have H := H5; clear H5)
      | (go_at_call 24; (with_reducible refine (writes a _).mono ?_); rintro e w5 ⟨rfl, ho⟩; have H5 := Lib.hid (H.out.quiet ho); clear H ho; have H := H5; clear H5)
      | (go_at_call 24; (with_reducible refine (writesZ2 a n k _).mono ?_); rintro e w5 ⟨rfl, ho⟩; have H5 := Lib.hid (H.out.quiet ho); clear H ho; have H := H5; clear H5)
      | (go_at_call 24; (with_reducible refine (writesZ2 a n a.key _).mono ?_); rintro e w5 ⟨rfl, ho⟩; have H5 := Lib.hid (H.out.quiet ho); clear H ho; have H := H5; clear H5)
      | ((with_reducible apply eqlR); (focus (exact rfl)); (focus (first | (exact rfl) | (simp [Region.wanted]; done) | (simp only [Region.wanted]; go_simp; done))); (focus (exact rfl)); (focus (exact rfl))))
    (with_reducible apply g_region 23)
    refine hp_walks H (fun j => match j with | 0 => .agg #[.int .i64 a.kind, .int .i64 n, .int .i64 a.who, .int .i64 a.role, .int .u32 a.token, .int .u64 a.key, .int .i64 a.call.id, .int .i64 a.call.kind, .int .i64 a.call.src, .int .i64 a.call.dst, .int .i64 a.call.car, .int .i64 a.call.state, .int .i64 a.call.owner, .int .i64 a.call.born, .int .i64 a.id, .int .i64 a.car, .int .i64 a.mode, .int .i64 a.filter.kind, .int .i64 a.filter.n] | 1 => .string (askV a) | 2 => .agg #[.int .i64 a.kind, .int .i64 a.seq, .int .i64 a.who, .int .i64 a.role, .int .u32 a.token, .int .u64 a.key, .int .i64 a.call.id, .int .i64 a.call.kind, .int .i64 a.call.src, .int .i64 a.call.dst, .int .i64 a.call.car, .int .i64 a.call.state, .int .i64 a.call.owner, .int .i64 a.call.born, .int .i64 a.id, .int .i64 a.car, .int .i64 a.mode, .int .i64 a.filter.kind, .int .i64 a.filter.n] | 3 => .string (askV a) | 4 => .bool true | 5 => .bool true | 6 => .agg #[.int .i64 a.kind, .int .i64 n, .int .i64 a.who, .int .i64 a.role, .int .u32 a.token, .int .u64 a.key, .int .i64 a.call.id, .int .i64 a.call.kind, .int .i64 a.call.src, .int .i64 a.call.dst, .int .i64 a.call.car, .int .i64 a.call.state, .int .i64 a.call.owner, .int .i64 a.call.born, .int .i64 a.id, .int .i64 a.car, .int .i64 a.mode, .int .i64 a.filter.kind, .int .i64 a.filter.n] | 7 => .bool (writesV a) | 8 => .agg #[.int .i64 a.kind, .int .i64 a.seq, .int .i64 a.who, .int .i64 a.role, .int .u32 a.token, .int .u64 a.key, .int .i64 a.call.id, .int .i64 a.call.kind, .int .i64 a.call.src, .int .i64 a.call.dst, .int .i64 a.call.car, .int .i64 a.call.state, .int .i64 a.call.owner, .int .i64 a.call.born, .int .i64 a.id, .int .i64 a.car, .int .i64 a.mode, .int .i64 a.filter.kind, .int .i64 a.filter.n] | 9 => .bool (writesV a) | 10 => .bool true | 11 => .bool true | 12 => .bool true | _ => undef) (by kernel_rfl) (by kernel_rfl) (by kernel_rfl) 91 rfl (by kernel_rfl) (by kernel_rfl) ?_ ?_ ?_
    · intro i o ho a' w' hfr H hdep hwant Q' hQ
      match i, ho with
      | 0, ho =>
        injection ho with ho
        subst ho
        have e15 : a'.eval (.tmp 15) = .pointer (some ⟨b15, 0, none⟩) := (hfr.old 15 (by kernel_rfl)).trans rfl
        have g15 : (a'.tmps[15]?).getD undef = .pointer (some ⟨b15, 0, none⟩) := by rw [← Array.getD_eq_getD_getElem?]; exact e15
        refine hpA_load tymsg_Request H rfl e15 hwant (by (repeat (first | exact List.Mem.head _ | apply List.Mem.tail))) rfl rfl ?_
        exact hQ _ H
      | 1, ho =>
        injection ho with ho
        subst ho
        have e79 : a'.eval (.tmp 79) = .agg #[.int .i64 a.kind, .int .i64 n, .int .i64 a.who, .int .i64 a.role, .int .u32 a.token, .int .u64 a.key, .int .i64 a.call.id, .int .i64 a.call.kind, .int .i64 a.call.src, .int .i64 a.call.dst, .int .i64 a.call.car, .int .i64 a.call.state, .int .i64 a.call.owner, .int .i64 a.call.born, .int .i64 a.id, .int .i64 a.car, .int .i64 a.mode, .int .i64 a.filter.kind, .int .i64 a.filter.n] := hdep ⟨0, .data⟩ (by simp) rfl
        have g79 : (a'.tmps[79]?).getD undef = .agg #[.int .i64 a.kind, .int .i64 n, .int .i64 a.who, .int .i64 a.role, .int .u32 a.token, .int .u64 a.key, .int .i64 a.call.id, .int .i64 a.call.kind, .int .i64 a.call.src, .int .i64 a.call.dst, .int .i64 a.call.car, .int .i64 a.call.state, .int .i64 a.call.owner, .int .i64 a.call.born, .int .i64 a.id, .int .i64 a.car, .int .i64 a.mode, .int .i64 a.filter.kind, .int .i64 a.filter.n] := by rw [← Array.getD_eq_getD_getElem?]; exact e79
        refine wpList_step fun K hK => ?_
        rw [if_pos hwant]
        refine Inv.wp_call 27 #[.agg #[.int .i64 a.kind, .int .i64 n, .int .i64 a.who, .int .i64 a.role, .int .u32 a.token, .int .u64 a.key, .int .i64 a.call.id, .int .i64 a.call.kind, .int .i64 a.call.src, .int .i64 a.call.dst, .int .i64 a.call.car, .int .i64 a.call.state, .int .i64 a.call.owner, .int .i64 a.call.born, .int .i64 a.id, .int .i64 a.car, .int .i64 a.mode, .int .i64 a.filter.kind, .int .i64 a.filter.n]] (by simp only [execOp]; go_simp) (by have h := askZ2 a n a.key HZ2 w'; rw [z] at h; exact h) ?_
        rintro e w2 ⟨rfl, ho⟩
        exact ⟨_, rfl, hK _ _ (hQ _ (Lib.hid (H.out.quiet ho)))⟩
      | 2, ho =>
        injection ho with ho
        subst ho
        have e4 : a'.eval (.tmp 4) = .pointer (some ⟨b4, 0, none⟩) := (hfr.old 4 (by kernel_rfl)).trans rfl
        have g4 : (a'.tmps[4]?).getD undef = .pointer (some ⟨b4, 0, none⟩) := by rw [← Array.getD_eq_getD_getElem?]; exact e4
        refine hpA_load tymsg_Request H rfl e4 hwant (by (repeat (first | exact List.Mem.head _ | apply List.Mem.tail))) rfl rfl ?_
        exact hQ _ H
      | 3, ho =>
        injection ho with ho
        subst ho
        have e81 : a'.eval (.tmp 81) = .agg #[.int .i64 a.kind, .int .i64 a.seq, .int .i64 a.who, .int .i64 a.role, .int .u32 a.token, .int .u64 a.key, .int .i64 a.call.id, .int .i64 a.call.kind, .int .i64 a.call.src, .int .i64 a.call.dst, .int .i64 a.call.car, .int .i64 a.call.state, .int .i64 a.call.owner, .int .i64 a.call.born, .int .i64 a.id, .int .i64 a.car, .int .i64 a.mode, .int .i64 a.filter.kind, .int .i64 a.filter.n] := hdep ⟨2, .data⟩ (by simp) rfl
        have g81 : (a'.tmps[81]?).getD undef = .agg #[.int .i64 a.kind, .int .i64 a.seq, .int .i64 a.who, .int .i64 a.role, .int .u32 a.token, .int .u64 a.key, .int .i64 a.call.id, .int .i64 a.call.kind, .int .i64 a.call.src, .int .i64 a.call.dst, .int .i64 a.call.car, .int .i64 a.call.state, .int .i64 a.call.owner, .int .i64 a.call.born, .int .i64 a.id, .int .i64 a.car, .int .i64 a.mode, .int .i64 a.filter.kind, .int .i64 a.filter.n] := by rw [← Array.getD_eq_getD_getElem?]; exact e81
        refine wpList_step fun K hK => ?_
        rw [if_pos hwant]
        refine Inv.wp_call 27 #[.agg #[.int .i64 a.kind, .int .i64 a.seq, .int .i64 a.who, .int .i64 a.role, .int .u32 a.token, .int .u64 a.key, .int .i64 a.call.id, .int .i64 a.call.kind, .int .i64 a.call.src, .int .i64 a.call.dst, .int .i64 a.call.car, .int .i64 a.call.state, .int .i64 a.call.owner, .int .i64 a.call.born, .int .i64 a.id, .int .i64 a.car, .int .i64 a.mode, .int .i64 a.filter.kind, .int .i64 a.filter.n]] (by simp only [execOp]; go_simp) (askC a HA w') ?_
        rintro e w2 ⟨rfl, ho⟩
        exact ⟨_, rfl, hK _ _ (hQ _ (Lib.hid (H.out.quiet ho)))⟩
      | 4, ho =>
        injection ho with ho
        subst ho
        have e80 : a'.eval (.tmp 80) = .string (askV a) := hdep ⟨1, .data⟩ (by simp) rfl
        have g80 : (a'.tmps[80]?).getD undef = .string (askV a) := by rw [← Array.getD_eq_getD_getElem?]; exact e80
        have e82 : a'.eval (.tmp 82) = .string (askV a) := hdep ⟨3, .data⟩ (by simp) rfl
        have g82 : (a'.tmps[82]?).getD undef = .string (askV a) := by rw [← Array.getD_eq_getD_getElem?]; exact e82
        refine wpList_step fun K hK => ?_
        rw [if_pos hwant]
        exact Inv.wp_val (.bool true) (by simp only [execOp]; go_simp) (hK _ _ (hQ _ H))
      | 5, ho =>
        injection ho with ho
        subst ho
        have e83 : a'.eval (.tmp 83) = .bool true := hdep ⟨4, .data⟩ (by simp) rfl
        have g83 : (a'.tmps[83]?).getD undef = .bool true := by rw [← Array.getD_eq_getD_getElem?]; exact e83
        refine wpList_step fun K hK => ?_
        rw [if_pos hwant]
        exact Inv.wp_val (.bool true) (by simp only [execOp]; go_simp) (hK _ _ (hQ _ H))
      | 6, ho =>
        injection ho with ho
        subst ho
        have e15 : a'.eval (.tmp 15) = .pointer (some ⟨b15, 0, none⟩) := (hfr.old 15 (by kernel_rfl)).trans rfl
        have g15 : (a'.tmps[15]?).getD undef = .pointer (some ⟨b15, 0, none⟩) := by rw [← Array.getD_eq_getD_getElem?]; exact e15
        refine hpA_load tymsg_Request H rfl e15 hwant (by (repeat (first | exact List.Mem.head _ | apply List.Mem.tail))) rfl rfl ?_
        exact hQ _ H
      | 7, ho =>
        injection ho with ho
        subst ho
        have e85 : a'.eval (.tmp 85) = .agg #[.int .i64 a.kind, .int .i64 n, .int .i64 a.who, .int .i64 a.role, .int .u32 a.token, .int .u64 a.key, .int .i64 a.call.id, .int .i64 a.call.kind, .int .i64 a.call.src, .int .i64 a.call.dst, .int .i64 a.call.car, .int .i64 a.call.state, .int .i64 a.call.owner, .int .i64 a.call.born, .int .i64 a.id, .int .i64 a.car, .int .i64 a.mode, .int .i64 a.filter.kind, .int .i64 a.filter.n] := hdep ⟨6, .data⟩ (by simp) rfl
        have g85 : (a'.tmps[85]?).getD undef = .agg #[.int .i64 a.kind, .int .i64 n, .int .i64 a.who, .int .i64 a.role, .int .u32 a.token, .int .u64 a.key, .int .i64 a.call.id, .int .i64 a.call.kind, .int .i64 a.call.src, .int .i64 a.call.dst, .int .i64 a.call.car, .int .i64 a.call.state, .int .i64 a.call.owner, .int .i64 a.call.born, .int .i64 a.id, .int .i64 a.car, .int .i64 a.mode, .int .i64 a.filter.kind, .int .i64 a.filter.n] := by rw [← Array.getD_eq_getD_getElem?]; exact e85
        refine wpList_step fun K hK => ?_
        rw [if_pos hwant]
        refine Inv.wp_call 24 #[.agg #[.int .i64 a.kind, .int .i64 n, .int .i64 a.who, .int .i64 a.role, .int .u32 a.token, .int .u64 a.key, .int .i64 a.call.id, .int .i64 a.call.kind, .int .i64 a.call.src, .int .i64 a.call.dst, .int .i64 a.call.car, .int .i64 a.call.state, .int .i64 a.call.owner, .int .i64 a.call.born, .int .i64 a.id, .int .i64 a.car, .int .i64 a.mode, .int .i64 a.filter.kind, .int .i64 a.filter.n]] (by simp only [execOp]; go_simp) (writesZ2 a n a.key w') ?_
        rintro e w2 ⟨rfl, ho⟩
        exact ⟨_, rfl, hK _ _ (hQ _ (Lib.hid (H.out.quiet ho)))⟩
      | 8, ho =>
        injection ho with ho
        subst ho
        have e4 : a'.eval (.tmp 4) = .pointer (some ⟨b4, 0, none⟩) := (hfr.old 4 (by kernel_rfl)).trans rfl
        have g4 : (a'.tmps[4]?).getD undef = .pointer (some ⟨b4, 0, none⟩) := by rw [← Array.getD_eq_getD_getElem?]; exact e4
        refine hpA_load tymsg_Request H rfl e4 hwant (by (repeat (first | exact List.Mem.head _ | apply List.Mem.tail))) rfl rfl ?_
        exact hQ _ H
      | 9, ho =>
        injection ho with ho
        subst ho
        have e87 : a'.eval (.tmp 87) = .agg #[.int .i64 a.kind, .int .i64 a.seq, .int .i64 a.who, .int .i64 a.role, .int .u32 a.token, .int .u64 a.key, .int .i64 a.call.id, .int .i64 a.call.kind, .int .i64 a.call.src, .int .i64 a.call.dst, .int .i64 a.call.car, .int .i64 a.call.state, .int .i64 a.call.owner, .int .i64 a.call.born, .int .i64 a.id, .int .i64 a.car, .int .i64 a.mode, .int .i64 a.filter.kind, .int .i64 a.filter.n] := hdep ⟨8, .data⟩ (by simp) rfl
        have g87 : (a'.tmps[87]?).getD undef = .agg #[.int .i64 a.kind, .int .i64 a.seq, .int .i64 a.who, .int .i64 a.role, .int .u32 a.token, .int .u64 a.key, .int .i64 a.call.id, .int .i64 a.call.kind, .int .i64 a.call.src, .int .i64 a.call.dst, .int .i64 a.call.car, .int .i64 a.call.state, .int .i64 a.call.owner, .int .i64 a.call.born, .int .i64 a.id, .int .i64 a.car, .int .i64 a.mode, .int .i64 a.filter.kind, .int .i64 a.filter.n] := by rw [← Array.getD_eq_getD_getElem?]; exact e87
        refine wpList_step fun K hK => ?_
        rw [if_pos hwant]
        refine Inv.wp_call 24 #[.agg #[.int .i64 a.kind, .int .i64 a.seq, .int .i64 a.who, .int .i64 a.role, .int .u32 a.token, .int .u64 a.key, .int .i64 a.call.id, .int .i64 a.call.kind, .int .i64 a.call.src, .int .i64 a.call.dst, .int .i64 a.call.car, .int .i64 a.call.state, .int .i64 a.call.owner, .int .i64 a.call.born, .int .i64 a.id, .int .i64 a.car, .int .i64 a.mode, .int .i64 a.filter.kind, .int .i64 a.filter.n]] (by simp only [execOp]; go_simp) (writes a w') ?_
        rintro e w2 ⟨rfl, ho⟩
        exact ⟨_, rfl, hK _ _ (hQ _ (Lib.hid (H.out.quiet ho)))⟩
      | 10, ho =>
        injection ho with ho
        subst ho
        have e86 : a'.eval (.tmp 86) = .bool (writesV a) := hdep ⟨7, .data⟩ (by simp) rfl
        have g86 : (a'.tmps[86]?).getD undef = .bool (writesV a) := by rw [← Array.getD_eq_getD_getElem?]; exact e86
        have e88 : a'.eval (.tmp 88) = .bool (writesV a) := hdep ⟨9, .data⟩ (by simp) rfl
        have g88 : (a'.tmps[88]?).getD undef = .bool (writesV a) := by rw [← Array.getD_eq_getD_getElem?]; exact e88
        refine wpList_step fun K hK => ?_
        rw [if_pos hwant]
        exact Inv.wp_val (.bool true) (by simp only [execOp]; go_simp) (hK _ _ (hQ _ H))
      | 11, ho =>
        injection ho with ho
        subst ho
        have e84 : a'.eval (.tmp 84) = .bool true := hdep ⟨5, .data⟩ (by simp) rfl
        have g84 : (a'.tmps[84]?).getD undef = .bool true := by rw [← Array.getD_eq_getD_getElem?]; exact e84
        have e89 : a'.eval (.tmp 89) = .bool true := hdep ⟨10, .data⟩ (by simp) rfl
        have g89 : (a'.tmps[89]?).getD undef = .bool true := by rw [← Array.getD_eq_getD_getElem?]; exact e89
        refine wpList_step fun K hK => ?_
        rw [if_pos hwant]
        exact Inv.wp_val (.bool true) (by simp only [execOp]; go_simp) (hK _ _ (hQ _ H))
      | 12, ho =>
        injection ho with ho
        subst ho
        have e90 : a'.eval (.tmp 90) = .bool true := hdep ⟨11, .data⟩ (by simp) rfl
        have g90 : (a'.tmps[90]?).getD undef = .bool true := by rw [← Array.getD_eq_getD_getElem?]; exact e90
        refine wpList_step fun K hK => ?_
        rw [if_pos hwant]
        exact Inv.wp_val (.bool true) (by simp only [execOp]; go_simp) (hK _ _ (hQ _ H))
      | _ + 13, ho => simp at ho
    · intro i o ho a' hdep hwant
      exfalso
      match i, ho with
      | 0, ho =>
        injection ho with ho
        subst ho
        simp [Region.wanted] at hwant
      | 1, ho =>
        injection ho with ho
        subst ho
        simp [Region.wanted] at hwant
      | 2, ho =>
        injection ho with ho
        subst ho
        simp [Region.wanted] at hwant
      | 3, ho =>
        injection ho with ho
        subst ho
        simp [Region.wanted] at hwant
      | 4, ho =>
        injection ho with ho
        subst ho
        simp [Region.wanted] at hwant
      | 5, ho =>
        injection ho with ho
        subst ho
        simp [Region.wanted] at hwant
      | 6, ho =>
        injection ho with ho
        subst ho
        have eg : a'.tmps.getD 84 undef = .bool true := hdep ⟨5, .guard⟩ (by simp) rfl
        rw [Array.getD_eq_getD_getElem?] at eg
        have eh := got_bool eg
        simp [Region.wanted, yielded, eh] at hwant
      | 7, ho =>
        injection ho with ho
        subst ho
        have eg : a'.tmps.getD 84 undef = .bool true := hdep ⟨5, .guard⟩ (by simp) rfl
        rw [Array.getD_eq_getD_getElem?] at eg
        have eh := got_bool eg
        simp [Region.wanted, yielded, eh] at hwant
      | 8, ho =>
        injection ho with ho
        subst ho
        have eg : a'.tmps.getD 84 undef = .bool true := hdep ⟨5, .guard⟩ (by simp) rfl
        rw [Array.getD_eq_getD_getElem?] at eg
        have eh := got_bool eg
        simp [Region.wanted, yielded, eh] at hwant
      | 9, ho =>
        injection ho with ho
        subst ho
        have eg : a'.tmps.getD 84 undef = .bool true := hdep ⟨5, .guard⟩ (by simp) rfl
        rw [Array.getD_eq_getD_getElem?] at eg
        have eh := got_bool eg
        simp [Region.wanted, yielded, eh] at hwant
      | 10, ho =>
        injection ho with ho
        subst ho
        have eg : a'.tmps.getD 84 undef = .bool true := hdep ⟨5, .guard⟩ (by simp) rfl
        rw [Array.getD_eq_getD_getElem?] at eg
        have eh := got_bool eg
        simp [Region.wanted, yielded, eh] at hwant
      | 11, ho =>
        injection ho with ho
        subst ho
        simp [Region.wanted] at hwant
      | 12, ho =>
        injection ho with ho
        subst ho
        simp [Region.wanted] at hwant
      | _ + 13, ho => simp at ho
    · clear H
      intro w5 H
      simp only [List.size_toArray, List.length_cons, List.length_nil, Nat.reduceAdd, Inv.putAll, Inv.dstAt, List.getElem?_toArray, List.getElem?_cons_zero, List.getElem?_cons_succ, Option.bind_some, Act.put, List.setIfInBounds_toArray, List.set_cons_zero, List.set_cons_succ]
      go_wp2_with (first
        | ((with_reducible apply g_mem); (focus (exact rfl)); first
      | ((with_reducible apply hpN_box 29 4 H); (focus (exact rfl)); (focus (exact rfl)); (focus (exact rfl)); (focus (exact rfl)); (focus (exact rfl)); intro w5 b4 H5; clear H; have H := H5; clear H5)
      | ((with_reducible apply hpN_box 29 5 H); (focus (exact rfl)); (focus (exact rfl)); (focus (exact rfl)); (focus (exact rfl)); (focus (exact rfl)); intro w5 b5 H5; clear H; have H := H5; clear H5)
      | ((with_reducible apply hpA_load tymsg_Request H); (focus (exact rfl)); (focus (exact rfl)); (focus (first | (exact rfl) | (simp [Region.wanted]; done) | (simp only [Region.wanted]; go_simp; done))); (focus (repeat (first | exact List.Mem.head _ | apply List.Mem.tail))); (focus ((try simp only [List.drop_zero, List.drop_succ_cons, List.take_succ_cons, List.take_zero]); exact rfl)); (focus (exact rfl)))
      | ((with_reducible apply hpN_alloc tymsg_Request 13 H); (focus (exact rfl)); (focus (exact rfl)); (focus (exact rfl)); intro w5 b13 H5; clear H; have H := H5; clear H5)
      | ((with_reducible apply hpA_store tymsg_Request H); (focus (exact rfl)); (focus (exact rfl)); (focus (exact rfl)); (focus (exact rfl)); (focus (exact rfl)); (focus (repeat (first | apply Put.head | apply Put.tail))); (focus (first | (simp; done) | (simp [*]; done) | (simp [Value.oneCell']; done))); (focus (first | (simp; done) | (simp [*]; done) | (simp [Value.oneCell']; done))); (focus ((try simp only [spl]); exact rfl)); (focus (exact rfl)); intro w5 H5; clear H; have H := H5; clear H5)
      | ((with_reducible apply hpN_alloc tymsg_Request 14 H); (focus (exact rfl)); (focus (exact rfl)); (focus (exact rfl)); intro w5 b14 H5; clear H; have H := H5; clear H5)
      | ((with_reducible apply hpA_store1 tyint H); (focus (exact rfl)); (focus (exact rfl)); (focus (exact rfl)); (focus (first | (go_simp; exact rfl) | exact rfl)); (focus (exact rfl)); (focus (repeat (first | apply Put.head | apply Put.tail))); (focus (first | (simp; done) | (simp [*]; done) | (simp [Value.oneCell']; done))); (focus (first | (simp; done) | (simp [*]; done) | (simp [Value.oneCell']; done))); (focus ((try simp only [List.set_cons_zero, List.set_cons_succ]); exact rfl)); (focus (exact rfl)); intro w5 H5; clear H; have H := H5; clear H5)
      | ((with_reducible apply hpA_store1 tyuint64 H); (focus (exact rfl)); (focus (exact rfl)); (focus (exact rfl)); (focus (first | (go_simp; exact rfl) | exact rfl)); (focus (exact rfl)); (focus (repeat (first | apply Put.head | apply Put.tail))); (focus (first | (simp; done) | (simp [*]; done) | (simp [Value.oneCell']; done))); (focus (first | (simp; done) | (simp [*]; done) | (simp [Value.oneCell']; done))); (focus ((try simp only [List.set_cons_zero, List.set_cons_succ]); exact rfl)); (focus (exact rfl)); intro w5 H5; clear H; have H := H5; clear H5)
      | ((with_reducible apply hpN_alloc tymsg_Request 15 H); (focus (exact rfl)); (focus (exact rfl)); (focus (exact rfl)); intro w5 b15 H5; clear H; have H := H5; clear H5)
      | ((with_reducible apply hpA_load1 tyint H); (focus (exact rfl)); (focus (exact rfl)); (focus (first | (exact rfl) | (simp [Region.wanted]; done) | (simp only [Region.wanted]; go_simp; done))); (focus (repeat (first | exact List.Mem.head _ | apply List.Mem.tail))); (focus ((try simp only [List.getElem?_cons_zero, List.getElem?_cons_succ]); exact rfl))))
        | (go_at_call 11; (with_reducible refine (awake14 _).mono ?_); rintro e w5 ⟨rfl, ho⟩; have H5 := Lib.hid (H.out.quiet ho); clear H ho; have H := H5; clear H5)
        | (go_at_call 14; (with_reducible refine (encodeC a HA _).mono ?_); rintro e w5 ⟨rfl, ho⟩; have H5 := Lib.hid (H.out.quiet ho); clear H ho; have H := H5; clear H5)
        | (go_at_call 14; (with_reducible refine (encodeC b HB _).mono ?_); rintro e w5 ⟨rfl, ho⟩; have H5 := Lib.hid (H.out.quiet ho); clear H ho; have H := H5; clear H5)
        | (go_at_call 27; (with_reducible refine (askC a HA _).mono ?_); rintro e w5 ⟨rfl, ho⟩; have H5 := Lib.hid (H.out.quiet ho); clear H ho; have H := H5; clear H5)
        | (go_at_call 27; (with_reducible refine (askC b HB _).mono ?_); rintro e w5 ⟨rfl, ho⟩; have H5 := Lib.hid (H.out.quiet ho); clear H ho; have H := H5; clear H5)
        | (go_at_call 27; (with_reducible refine (askZ2 a n k HZ1 _).mono ?_); rintro e w5 ⟨rfl, ho⟩; have H5 := Lib.hid (H.out.quiet ho); clear H ho; have H := H5; clear H5)
        | (go_at_call 27; (with_reducible refine (askZ2 a n a.key HZ2 _).mono ?_); rintro e w5 ⟨rfl, ho⟩; have H5 := Lib.hid (H.out.quiet ho); clear H ho; have H := H5; clear H5)
        | (go_at_call 24; (with_reducible refine (writes a _).mono ?_); rintro e w5 ⟨rfl, ho⟩; have H5 := Lib.hid (H.out.quiet ho); clear H ho; have H := H5; clear H5)
        | (go_at_call 24; (with_reducible refine (writesZ2 a n k _).mono ?_); rintro e w5 ⟨rfl, ho⟩; have H5 := Lib.hid (H.out.quiet ho); clear H ho; have H := H5; clear H5)
        | (go_at_call 24; (with_reducible refine (writesZ2 a n a.key _).mono ?_); rintro e w5 ⟨rfl, ho⟩; have H5 := Lib.hid (H.out.quiet ho); clear H ho; have H := H5; clear H5)
        | ((with_reducible apply eqlR); (focus (exact rfl)); (focus (first | (exact rfl) | (simp [Region.wanted]; done) | (simp only [Region.wanted]; go_simp; done))); (focus (exact rfl)); (focus (exact rfl))))
      go_ret
      exact ⟨rfl, H.out.off⟩
end Go.Proofs.Ytloemjhhedkhiaa.Ms
