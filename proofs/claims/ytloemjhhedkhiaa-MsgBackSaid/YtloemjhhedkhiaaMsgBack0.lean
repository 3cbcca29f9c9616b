/- What was encoded is decoded as it was: the short ways. -/
import Derived.Test.YtloemjhhedkhiaaProg
import Derived.Below
import Derived.WalkKit
import Derived.KernelRfl
import Derived.RowKit3
import Derived.Deep.LoopGhost
import Derived.Deep.QuietTactic
import Derived.BigQuiet
import Derived.WideLaws
import Derived.Deep.DeepCutAuto
import Derived.Deep.CutBlock
import Derived.Lib.Hide
import Derived.Laws.BitsLemmas
import Derived.Laws.Bits64
import Derived.Laws.BitsAllLaws
import Derived.IntWalk
import Derived.Outline
import Derived.WalkSpells
import Derived.Test.YtloemjhhedkhiaaMem
import Derived.Test.YtloemjhhedkhiaaCv
import Derived.Test.YtloemjhhedkhiaaHpW
namespace Go.Proofs.Ytloemjhhedkhiaa.Ms
open Go.RowKit Go.Proofs.Ytloemjhhedkhiaa.Mem Go.Proofs.Ytloemjhhedkhiaa.Pk Go.Proofs.Ytloemjhhedkhiaa.Ca

set_option maxRecDepth 20000 in
set_option maxHeartbeats 64000000 in
theorem back_long (a b : ReqV) (body : ByteArray) (m : Nat) (HA : Hid (okReq a)) (HB : Hid (okReq b)) (HD : Hid (okReq (decodeV body).1)) (w : World) (h : decide (256 < (body.size : Int)) = true) : Calls Try.prog 4 #[.agg #[.int .i64 a.kind, .int .i64 a.seq, .int .i64 a.who, .int .i64 a.role, .int .u32 a.token, .int .u64 a.key, .int .i64 a.call.id, .int .i64 a.call.kind, .int .i64 a.call.src, .int .i64 a.call.dst, .int .i64 a.call.car, .int .i64 a.call.state, .int .i64 a.call.owner, .int .i64 a.call.born, .int .i64 a.id, .int .i64 a.car, .int .i64 a.mode, .int .i64 a.filter.kind, .int .i64 a.filter.n], .agg #[.int .i64 b.kind, .int .i64 b.seq, .int .i64 b.who, .int .i64 b.role, .int .u32 b.token, .int .u64 b.key, .int .i64 b.call.id, .int .i64 b.call.kind, .int .i64 b.call.src, .int .i64 b.call.dst, .int .i64 b.call.car, .int .i64 b.call.state, .int .i64 b.call.owner, .int .i64 b.call.born, .int .i64 b.id, .int .i64 b.car, .int .i64 b.mode, .int .i64 b.filter.kind, .int .i64 b.filter.n], .string body, .int .u8 (m : Int)] w fun e w' => e = .returned (.bool true) ∧ Off [] w w' := by
  have H := Lib.hid (Hp.start [] w)
  go_enter Try.func4, Try.ntmps4
  go_wp2_with (first
    | ((with_reducible apply g_mem); (focus (exact rfl)); first
      | ((with_reducible apply hpN_box 29 4 H); (focus (exact rfl)); (focus (exact rfl)); (focus (exact rfl)); (focus (exact rfl)); (focus (exact rfl)); intro w5 b4 H5; clear H; have H := H5; clear H5)
      | ((with_reducible apply hpN_box 29 5 H); (focus (exact rfl)); (focus (exact rfl)); (focus (exact rfl)); (focus (exact rfl)); (focus (exact rfl)); intro w5 b5 H5; clear H; have H := H5; clear H5)
      | ((with_reducible apply hpN_alloc tymsg_Request 9 H); (focus (exact rfl)); (focus (exact rfl)); (focus (exact rfl)); intro w5 b9 H5; clear H; have H := H5; clear H5)
      | ((with_reducible apply hpA_store tymsg_Request H); (focus (exact rfl)); (focus (exact rfl)); (focus (exact rfl)); (focus (exact rfl)); (focus (exact rfl)); (focus (repeat (first | apply Put.head | apply Put.tail))); (focus (first | (simp; done) | (simp [*]; done) | (simp [Value.oneCell']; done))); (focus (first | (simp; done) | (simp [*]; done) | (simp [Value.oneCell']; done))); (focus ((try simp only [spl]); exact rfl)); (focus (exact rfl)); intro w5 H5; clear H; have H := H5; clear H5)
      | ((with_reducible apply hpA_load tymsg_Request H); (focus (exact rfl)); (focus (exact rfl)); (focus (first | (exact rfl) | (simp [Region.wanted]; done) | (simp only [Region.wanted]; go_simp; done))); (focus (repeat (first | exact List.Mem.head _ | apply List.Mem.tail))); (focus ((try simp only [List.drop_zero, List.drop_succ_cons, List.take_succ_cons, List.take_zero]); exact rfl)); (focus (exact rfl)))
      | ((with_reducible apply hpN_alloc tymsg_Request 17 H); (focus (exact rfl)); (focus (exact rfl)); (focus (exact rfl)); intro w5 b17 H5; clear H; have H := H5; clear H5)
      | ((with_reducible apply hpN_bslice Try.underlying44 tyuint8 69 H); (focus (exact rfl)); (focus (exact rfl)); (focus (first | (exact rfl) | (simp [Region.wanted]; done) | (simp only [Region.wanted]; go_simp; done))); (focus (first | decide | (simp; done))); (focus (first | decide | (simp; done))); (focus (first | (go_simp; exact rfl) | exact rfl)); intro w5 b69 H5; clear H; have H := H5; clear H5)
      | ((with_reducible apply hpN_alloc tymsg_Request 19 H); (focus (exact rfl)); (focus (exact rfl)); (focus (exact rfl)); intro w5 b19 H5; clear H; have H := H5; clear H5)
      | ((with_reducible apply hpN_alloc tymsg_Request 21 H); (focus (exact rfl)); (focus (exact rfl)); (focus (exact rfl)); intro w5 b21 H5; clear H; have H := H5; clear H5)
      | ((with_reducible apply hpA_load1 tyint H); (focus (exact rfl)); (focus (exact rfl)); (focus (first | (exact rfl) | (simp [Region.wanted]; done) | (simp only [Region.wanted]; go_simp; done))); (focus (repeat (first | exact List.Mem.head _ | apply List.Mem.tail))); (focus ((try simp only [List.getElem?_cons_zero, List.getElem?_cons_succ]); exact rfl))))
    | (go_at_call 11; (with_reducible refine (awake14 _).mono ?_); rintro e w5 ⟨rfl, ho⟩; have H5 := Lib.hid (H.out.quiet ho); clear H ho; have H := H5; clear H5)
    | (go_at_call 15; (with_reducible refine (decodeC _ _).mono ?_); rintro e w5 ⟨rfl, ho⟩; have H5 := Lib.hid (H.out.quiet ho); clear H ho; have H := H5; clear H5)
    | (go_at_call 14; (with_reducible refine (encodeC a HA _).mono ?_); rintro e w5 ⟨rfl, ho⟩; have H5 := Lib.hid (H.out.quiet ho); clear H ho; have H := H5; clear H5)
    | (go_at_call 14; (with_reducible refine (encodeC b HB _).mono ?_); rintro e w5 ⟨rfl, ho⟩; have H5 := Lib.hid (H.out.quiet ho); clear H ho; have H := H5; clear H5)
    | (go_at_call 14; (with_reducible refine (encodeC (decodeV body).1 HD _).mono ?_); rintro e w5 ⟨rfl, ho⟩; have H5 := Lib.hid (H.out.quiet ho); clear H ho; have H := H5; clear H5)
    | (go_at_call 17; (with_reducible refine (seqC _ _).mono ?_); rintro e w5 ⟨rfl, ho⟩; have H5 := Lib.hid (H.out.quiet ho); clear H ho; have H := H5; clear H5)
    | ((with_reducible apply eqlR); (focus (exact rfl)); (focus (first | (exact rfl) | (simp [Region.wanted]; done) | (simp only [Region.wanted]; go_simp; done))); (focus (exact rfl)); (focus (exact rfl)))
    | ((with_reducible apply convR H); (focus (exact rfl)); (focus (first | (exact rfl) | (simp [Region.wanted]; done) | (simp only [Region.wanted]; go_simp; done))); (focus (exact rfl)); (focus (repeat (first | exact List.Mem.head _ | apply List.Mem.tail)))))
  go_ret
  exact ⟨rfl, H.out.off⟩
set_option maxRecDepth 20000 in
set_option maxHeartbeats 64000000 in
theorem back_no0 (a b : ReqV) (body : ByteArray) (m : Nat) (HA : Hid (okReq a)) (HB : Hid (okReq b)) (HD : Hid (okReq (decodeV body).1)) (w : World) (h : decide (256 < (body.size : Int)) = false) (q0 : ((decodeV body).2 == 0) = false) (q1 : ((encodeV a).2 != 0) = true) (eA : (encodeV a).1 = ⟨#[]⟩) : Calls Try.prog 4 #[.agg #[.int .i64 a.kind, .int .i64 a.seq, .int .i64 a.who, .int .i64 a.role, .int .u32 a.token, .int .u64 a.key, .int .i64 a.call.id, .int .i64 a.call.kind, .int .i64 a.call.src, .int .i64 a.call.dst, .int .i64 a.call.car, .int .i64 a.call.state, .int .i64 a.call.owner, .int .i64 a.call.born, .int .i64 a.id, .int .i64 a.car, .int .i64 a.mode, .int .i64 a.filter.kind, .int .i64 a.filter.n], .agg #[.int .i64 b.kind, .int .i64 b.seq, .int .i64 b.who, .int .i64 b.role, .int .u32 b.token, .int .u64 b.key, .int .i64 b.call.id, .int .i64 b.call.kind, .int .i64 b.call.src, .int .i64 b.call.dst, .int .i64 b.call.car, .int .i64 b.call.state, .int .i64 b.call.owner, .int .i64 b.call.born, .int .i64 b.id, .int .i64 b.car, .int .i64 b.mode, .int .i64 b.filter.kind, .int .i64 b.filter.n], .string body, .int .u8 (m : Int)] w fun e w' => e = .returned (.bool true) ∧ Off [] w w' := by
  have H := Lib.hid (Hp.start [] w)
  go_enter Try.func4, Try.ntmps4
  go_wp2_with (first
    | ((with_reducible apply g_mem); (focus (exact rfl)); first
      | ((with_reducible apply hpN_box 29 4 H); (focus (exact rfl)); (focus (exact rfl)); (focus (exact rfl)); (focus (exact rfl)); (focus (exact rfl)); intro w5 b4 H5; clear H; have H := H5; clear H5)
      | ((with_reducible apply hpN_box 29 5 H); (focus (exact rfl)); (focus (exact rfl)); (focus (exact rfl)); (focus (exact rfl)); (focus (exact rfl)); intro w5 b5 H5; clear H; have H := H5; clear H5)
      | ((with_reducible apply hpN_alloc tymsg_Request 9 H); (focus (exact rfl)); (focus (exact rfl)); (focus (exact rfl)); intro w5 b9 H5; clear H; have H := H5; clear H5)
      | ((with_reducible apply hpA_store tymsg_Request H); (focus (exact rfl)); (focus (exact rfl)); (focus (exact rfl)); (focus (exact rfl)); (focus (exact rfl)); (focus (repeat (first | apply Put.head | apply Put.tail))); (focus (first | (simp; done) | (simp [*]; done) | (simp [Value.oneCell']; done))); (focus (first | (simp; done) | (simp [*]; done) | (simp [Value.oneCell']; done))); (focus ((try simp only [spl]); exact rfl)); (focus (exact rfl)); intro w5 H5; clear H; have H := H5; clear H5)
      | ((with_reducible apply hpA_load tymsg_Request H); (focus (exact rfl)); (focus (exact rfl)); (focus (first | (exact rfl) | (simp [Region.wanted]; done) | (simp only [Region.wanted]; go_simp; done))); (focus (repeat (first | exact List.Mem.head _ | apply List.Mem.tail))); (focus ((try simp only [List.drop_zero, List.drop_succ_cons, List.take_succ_cons, List.take_zero]); exact rfl)); (focus (exact rfl)))
      | ((with_reducible apply hpN_alloc tymsg_Request 17 H); (focus (exact rfl)); (focus (exact rfl)); (focus (exact rfl)); intro w5 b17 H5; clear H; have H := H5; clear H5)
      | ((with_reducible apply hpN_bslice Try.underlying44 tyuint8 69 H); (focus (exact rfl)); (focus (exact rfl)); (focus (first | (exact rfl) | (simp [Region.wanted]; done) | (simp only [Region.wanted]; go_simp; done))); (focus (first | decide | (simp; done))); (focus (first | decide | (simp; done))); (focus (first | (go_simp; exact rfl) | exact rfl)); intro w5 b69 H5; clear H; have H := H5; clear H5)
      | ((with_reducible apply hpN_alloc tymsg_Request 19 H); (focus (exact rfl)); (focus (exact rfl)); (focus (exact rfl)); intro w5 b19 H5; clear H; have H := H5; clear H5)
      | ((with_reducible apply hpN_alloc tymsg_Request 21 H); (focus (exact rfl)); (focus (exact rfl)); (focus (exact rfl)); intro w5 b21 H5; clear H; have H := H5; clear H5)
      | ((with_reducible apply hpA_load1 tyint H); (focus (exact rfl)); (focus (exact rfl)); (focus (first | (exact rfl) | (simp [Region.wanted]; done) | (simp only [Region.wanted]; go_simp; done))); (focus (repeat (first | exact List.Mem.head _ | apply List.Mem.tail))); (focus ((try simp only [List.getElem?_cons_zero, List.getElem?_cons_succ]); exact rfl))))
    | (go_at_call 11; (with_reducible refine (awake14 _).mono ?_); rintro e w5 ⟨rfl, ho⟩; have H5 := Lib.hid (H.out.quiet ho); clear H ho; have H := H5; clear H5)
    | (go_at_call 15; (with_reducible refine (decodeC _ _).mono ?_); rintro e w5 ⟨rfl, ho⟩; have H5 := Lib.hid (H.out.quiet ho); clear H ho; have H := H5; clear H5)
    | (go_at_call 14; (with_reducible refine (encodeC a HA _).mono ?_); rintro e w5 ⟨rfl, ho⟩; have H5 := Lib.hid (H.out.quiet ho); clear H ho; have H := H5; clear H5)
    | (go_at_call 14; (with_reducible refine (encodeC b HB _).mono ?_); rintro e w5 ⟨rfl, ho⟩; have H5 := Lib.hid (H.out.quiet ho); clear H ho; have H := H5; clear H5)
    | (go_at_call 14; (with_reducible refine (encodeC (decodeV body).1 HD _).mono ?_); rintro e w5 ⟨rfl, ho⟩; have H5 := Lib.hid (H.out.quiet ho); clear H ho; have H := H5; clear H5)
    | (go_at_call 17; (with_reducible refine (seqC _ _).mono ?_); rintro e w5 ⟨rfl, ho⟩; have H5 := Lib.hid (H.out.quiet ho); clear H ho; have H := H5; clear H5)
    | ((with_reducible apply eqlR); (focus (exact rfl)); (focus (first | (exact rfl) | (simp [Region.wanted]; done) | (simp only [Region.wanted]; go_simp; done))); (focus (exact rfl)); (focus (exact rfl)))
    | ((with_reducible apply convR H); (focus (exact rfl)); (focus (first | (exact rfl) | (simp [Region.wanted]; done) | (simp only [Region.wanted]; go_simp; done))); (focus (exact rfl)); (focus (repeat (first | exact List.Mem.head _ | apply List.Mem.tail)))))
  go_ret
  exact ⟨rfl, H.out.off⟩
set_option maxRecDepth 20000 in
set_option maxHeartbeats 64000000 in
theorem back_no1 (a b : ReqV) (body : ByteArray) (m : Nat) (HA : Hid (okReq a)) (HB : Hid (okReq b)) (HD : Hid (okReq (decodeV body).1)) (w : World) (h : decide (256 < (body.size : Int)) = false) (q0 : ((decodeV body).2 == 0) = true) (e0 : encodeV (decodeV body).1 = (body, 0)) (q1 : ((encodeV a).2 != 0) = true) (eA : (encodeV a).1 = ⟨#[]⟩) : Calls Try.prog 4 #[.agg #[.int .i64 a.kind, .int .i64 a.seq, .int .i64 a.who, .int .i64 a.role, .int .u32 a.token, .int .u64 a.key, .int .i64 a.call.id, .int .i64 a.call.kind, .int .i64 a.call.src, .int .i64 a.call.dst, .int .i64 a.call.car, .int .i64 a.call.state, .int .i64 a.call.owner, .int .i64 a.call.born, .int .i64 a.id, .int .i64 a.car, .int .i64 a.mode, .int .i64 a.filter.kind, .int .i64 a.filter.n], .agg #[.int .i64 b.kind, .int .i64 b.seq, .int .i64 b.who, .int .i64 b.role, .int .u32 b.token, .int .u64 b.key, .int .i64 b.call.id, .int .i64 b.call.kind, .int .i64 b.call.src, .int .i64 b.call.dst, .int .i64 b.call.car, .int .i64 b.call.state, .int .i64 b.call.owner, .int .i64 b.call.born, .int .i64 b.id, .int .i64 b.car, .int .i64 b.mode, .int .i64 b.filter.kind, .int .i64 b.filter.n], .string body, .int .u8 (m : Int)] w fun e w' => e = .returned (.bool true) ∧ Off [] w w' := by
  have H := Lib.hid (Hp.start [] w)
  go_enter Try.func4, Try.ntmps4
  go_wp2_with (first
    | ((with_reducible apply g_mem); (focus (exact rfl)); first
      | ((with_reducible apply hpN_box 29 4 H); (focus (exact rfl)); (focus (exact rfl)); (focus (exact rfl)); (focus (exact rfl)); (focus (exact rfl)); intro w5 b4 H5; clear H; have H := H5; clear H5)
      | ((with_reducible apply hpN_box 29 5 H); (focus (exact rfl)); (focus (exact rfl)); (focus (exact rfl)); (focus (exact rfl)); (focus (exact rfl)); intro w5 b5 H5; clear H; have H := H5; clear H5)
      | ((with_reducible apply hpN_alloc tymsg_Request 9 H); (focus (exact rfl)); (focus (exact rfl)); (focus (exact rfl)); intro w5 b9 H5; clear H; have H := H5; clear H5)
      | ((with_reducible apply hpA_store tymsg_Request H); (focus (exact rfl)); (focus (exact rfl)); (focus (exact rfl)); (focus (exact rfl)); (focus (exact rfl)); (focus (repeat (first | apply Put.head | apply Put.tail))); (focus (first | (simp; done) | (simp [*]; done) | (simp [Value.oneCell']; done))); (focus (first | (simp; done) | (simp [*]; done) | (simp [Value.oneCell']; done))); (focus ((try simp only [spl]); exact rfl)); (focus (exact rfl)); intro w5 H5; clear H; have H := H5; clear H5)
      | ((with_reducible apply hpA_load tymsg_Request H); (focus (exact rfl)); (focus (exact rfl)); (focus (first | (exact rfl) | (simp [Region.wanted]; done) | (simp only [Region.wanted]; go_simp; done))); (focus (repeat (first | exact List.Mem.head _ | apply List.Mem.tail))); (focus ((try simp only [List.drop_zero, List.drop_succ_cons, List.take_succ_cons, List.take_zero]); exact rfl)); (focus (exact rfl)))
      | ((with_reducible apply hpN_alloc tymsg_Request 17 H); (focus (exact rfl)); (focus (exact rfl)); (focus (exact rfl)); intro w5 b17 H5; clear H; have H := H5; clear H5)
      | ((with_reducible apply hpN_bslice Try.underlying44 tyuint8 69 H); (focus (exact rfl)); (focus (exact rfl)); (focus (first | (exact rfl) | (simp [Region.wanted]; done) | (simp only [Region.wanted]; go_simp; done))); (focus (first | decide | (simp; done))); (focus (first | decide | (simp; done))); (focus (first | (go_simp; exact rfl) | exact rfl)); intro w5 b69 H5; clear H; have H := H5; clear H5)
      | ((with_reducible apply hpN_alloc tymsg_Request 19 H); (focus (exact rfl)); (focus (exact rfl)); (focus (exact rfl)); intro w5 b19 H5; clear H; have H := H5; clear H5)
      | ((with_reducible apply hpN_alloc tymsg_Request 21 H); (focus (exact rfl)); (focus (exact rfl)); (focus (exact rfl)); intro w5 b21 H5; clear H; have H := H5; clear H5)
      | ((with_reducible apply hpA_load1 tyint H); (focus (exact rfl)); (focus (exact rfl)); (focus (first | (exact rfl) | (simp [Region.wanted]; done) | (simp only [Region.wanted]; go_simp; done))); (focus (repeat (first | exact List.Mem.head _ | apply List.Mem.tail))); (focus ((try simp only [List.getElem?_cons_zero, List.getElem?_cons_succ]); exact rfl))))
    | (go_at_call 11; (with_reducible refine (awake14 _).mono ?_); rintro e w5 ⟨rfl, ho⟩; have H5 := Lib.hid (H.out.quiet ho); clear H ho; have H := H5; clear H5)
    | (go_at_call 15; (with_reducible refine (decodeC _ _).mono ?_); rintro e w5 ⟨rfl, ho⟩; have H5 := Lib.hid (H.out.quiet ho); clear H ho; have H := H5; clear H5)
    | (go_at_call 14; (with_reducible refine (encodeC a HA _).mono ?_); rintro e w5 ⟨rfl, ho⟩; have H5 := Lib.hid (H.out.quiet ho); clear H ho; have H := H5; clear H5)
    | (go_at_call 14; (with_reducible refine (encodeC b HB _).mono ?_); rintro e w5 ⟨rfl, ho⟩; have H5 := Lib.hid (H.out.quiet ho); clear H ho; have H := H5; clear H5)
    | (go_at_call 14; (with_reducible refine (encodeC (decodeV body).1 HD _).mono ?_); rintro e w5 ⟨rfl, ho⟩; have H5 := Lib.hid (H.out.quiet ho); clear H ho; have H := H5; clear H5)
    | (go_at_call 17; (with_reducible refine (seqC _ _).mono ?_); rintro e w5 ⟨rfl, ho⟩; have H5 := Lib.hid (H.out.quiet ho); clear H ho; have H := H5; clear H5)
    | ((with_reducible apply eqlR); (focus (exact rfl)); (focus (first | (exact rfl) | (simp [Region.wanted]; done) | (simp only [Region.wanted]; go_simp; done))); (focus (exact rfl)); (focus (exact rfl)))
    | ((with_reducible apply convR H); (focus (exact rfl)); (focus (first | (exact rfl) | (simp [Region.wanted]; done) | (simp only [Region.wanted]; go_simp; done))); (focus (exact rfl)); (focus (repeat (first | exact List.Mem.head _ | apply List.Mem.tail)))))
  go_ret
  exact ⟨rfl, H.out.off⟩
end Go.Proofs.Ytloemjhhedkhiaa.Ms
