/- What was encoded is decoded as it was: the walk of the statement. -/
import Derived.Test.YtloemjhhedkhiaaProg
import Derived.Below
import Derived.WalkKit
import Derived.KernelRfl
import Derived.RowKit3
import Derived.Deep.LoopGhost
import Derived.Deep.QuietTactic
import Derived.BigQuiet
import Derived.WideLaws
import Derived.Deep.DeepCutAuto
import Derived.Deep.CutBlock
import Derived.Lib.Hide
import Derived.Laws.BitsLemmas
import Derived.Laws.Bits64
import Derived.Laws.BitsAllLaws
import Derived.IntWalk
import Derived.Outline
import Derived.WalkSpells
import Derived.Test.YtloemjhhedkhiaaMem
import Derived.Test.YtloemjhhedkhiaaMsgBack1
import Derived.Test.YtloemjhhedkhiaaMsgBack2
import Derived.Test.YtloemjhhedkhiaaMsgBack3
import Derived.Test.YtloemjhhedkhiaaMsgBack4
import Derived.Test.YtloemjhhedkhiaaOpenMs
namespace Go.Proofs.Ytloemjhhedkhiaa.Ms
open Go.RowKit Go.Proofs.Ytloemjhhedkhiaa.Mem Go.Proofs.Ytloemjhhedkhiaa.Pk Go.Proofs.Ytloemjhhedkhiaa.Ca

theorem msgBack (a b : ReqV) (body : ByteArray) (m : Nat) (hm : m < 256) (ha : okReq a) (hb : okReq b) (w : World) : Calls Try.prog 4 #[.agg #[.int .i64 a.kind, .int .i64 a.seq, .int .i64 a.who, .int .i64 a.role, .int .u32 a.token, .int .u64 a.key, .int .i64 a.call.id, .int .i64 a.call.kind, .int .i64 a.call.src, .int .i64 a.call.dst, .int .i64 a.call.car, .int .i64 a.call.state, .int .i64 a.call.owner, .int .i64 a.call.born, .int .i64 a.id, .int .i64 a.car, .int .i64 a.mode, .int .i64 a.filter.kind, .int .i64 a.filter.n], .agg #[.int .i64 b.kind, .int .i64 b.seq, .int .i64 b.who, .int .i64 b.role, .int .u32 b.token, .int .u64 b.key, .int .i64 b.call.id, .int .i64 b.call.kind, .int .i64 b.call.src, .int .i64 b.call.dst, .int .i64 b.call.car, .int .i64 b.call.state, .int .i64 b.call.owner, .int .i64 b.call.born, .int .i64 b.id, .int .i64 b.car, .int .i64 b.mode, .int .i64 b.filter.kind, .int .i64 b.filter.n], .string body, .int .u8 (m : Int)] w fun e w' => e = .returned (.bool true) ∧ Off [] w w' := by
  have HA := Lib.hid ha
  have HB := Lib.hid hb
  have hd : okReq (decodeV body).1 := by
    rcases Classical.em ((decodeV body).2 = 0) with h | h
    · rw [(decode_is h).1]
      exact found_ok body
    · have : decodeV body = (noReq, 4) := decode_no h
      rw [this]
      exact ⟨⟨by decide, by decide⟩, ⟨by decide, by decide⟩⟩
  have HD := Lib.hid hd
  rcases Bool.eq_false_or_eq_true (decide (256 < (body.size : Int))) with h | h
  · exact back_long a b body m HA HB HD w h
  rcases Bool.eq_false_or_eq_true ((encodeV a).2 != 0) with q1 | q1
  · have eA := encode_no (q := a) (by simpa using q1)
    rcases Bool.eq_false_or_eq_true ((decodeV body).2 == 0) with q0 | q0
    · exact back_no1 a b body m HA HB HD w h q0 (encode_decoded (by simpa using q0)) q1 eA
    · exact back_no0 a b body m HA HB HD w h q0 q1 eA
  · have o1 : (encodeV a).2 = 0 := by simpa using q1
    have b1 := encode_back ha o1
    have b2 := decode_more ha o1 [m] (by simp) (by simpa using hm)
    have b3 := decode_less ha o1
    have b4 := seq_encoded ha o1
    have ss := (same_iff a a).2 rfl
    have z1 := encode_some ha o1
    have z2 := encode_few ha o1
    rcases Bool.eq_false_or_eq_true ((encodeV b).2 != 0) with q2 | q2 <;> rcases Bool.eq_false_or_eq_true ((decodeV body).2 == 0) with q0 | q0
    · exact back_way2 a b body m HA HB HD w h q1 q2 q0 (encode_decoded (by simpa using q0)) b1 b2 b3 b4 ss z1 z2
    · exact back_way0 a b body m HA HB HD w h q1 q2 q0 b1 b2 b3 b4 ss z1 z2
    · exact back_way3 a b body m HA HB HD w h q1 q2 q0 (encode_decoded (by simpa using q0)) b1 b2 b3 b4 ss z1 z2 (enc_same ha hb o1 (by simpa using q2))
    · exact back_way1 a b body m HA HB HD w h q1 q2 q0 b1 b2 b3 b4 ss z1 z2 (enc_same ha hb o1 (by simpa using q2))
theorem wfb_u32 {n : Int} (h : (Lit.int .u32 n).wf = true) : 0 ≤ n ∧ n ≤ 4294967295 := by
  have h1 := (Lit.wf_int_iff .u32 n).1 h
  have h2 : IntKind.u32.min = 0 := by decide
  have h3 : IntKind.u32.max = 4294967295 := by decide
  omega
theorem wfb_u64 {n : Int} (h : (Lit.int .u64 n).wf = true) : 0 ≤ n ∧ n ≤ 18446744073709551615 := by
  have h1 := (Lit.wf_int_iff .u64 n).1 h
  have h2 : IntKind.u64.min = 0 := by decide
  have h3 : IntKind.u64.max = 18446744073709551615 := by decide
  omega
theorem wfb_u8 {n : Int} (h : (Lit.int .u8 n).wf = true) : 0 ≤ n ∧ n ≤ 255 := by
  have h1 := (Lit.wf_int_iff .u8 n).1 h
  have h2 : IntKind.u8.min = 0 := by decide
  have h3 : IntKind.u8.max = 255 := by decide
  omega
theorem okb_req {q : ReqV} (h : ok_ReqV q) : okReq q := ⟨wfb_u32 h.2.2.2.2.1, wfb_u64 h.2.2.2.2.2.1⟩
theorem msgBackB (a b : ReqV) (body : ByteArray) (k : Int) (w : World) (wa : ok_ReqV a) (wb : ok_ReqV b) (_ : body.size ≤ 140737488351232) (wk : (Lit.int .u8 k).wf = true) : Calls Try.prog 4 #[.agg #[.int .i64 a.kind, .int .i64 a.seq, .int .i64 a.who, .int .i64 a.role, .int .u32 a.token, .int .u64 a.key, .int .i64 a.call.id, .int .i64 a.call.kind, .int .i64 a.call.src, .int .i64 a.call.dst, .int .i64 a.call.car, .int .i64 a.call.state, .int .i64 a.call.owner, .int .i64 a.call.born, .int .i64 a.id, .int .i64 a.car, .int .i64 a.mode, .int .i64 a.filter.kind, .int .i64 a.filter.n], .agg #[.int .i64 b.kind, .int .i64 b.seq, .int .i64 b.who, .int .i64 b.role, .int .u32 b.token, .int .u64 b.key, .int .i64 b.call.id, .int .i64 b.call.kind, .int .i64 b.call.src, .int .i64 b.call.dst, .int .i64 b.call.car, .int .i64 b.call.state, .int .i64 b.call.owner, .int .i64 b.call.born, .int .i64 b.id, .int .i64 b.car, .int .i64 b.mode, .int .i64 b.filter.kind, .int .i64 b.filter.n], .string body, .int .u8 k] w fun e w' => e = .returned (.bool true) ∧ Below w.heap.size w w' := by
  have h := wfb_u8 wk
  obtain ⟨m, rfl⟩ := Int.eq_ofNat_of_zero_le h.1
  exact (msgBack a b body m (by omega) (okb_req wa) (okb_req wb) w).mono fun _ _ h => ⟨h.1, h.2.to_below⟩
end Go.Proofs.Ytloemjhhedkhiaa.Ms
