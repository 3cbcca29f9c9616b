/- Layer 14: MsgParts, of what a row hands in. -/
import Derived.Test.YtloemjhhedkhiaaProg
import Derived.Below
import Derived.WalkKit
import Derived.KernelRfl
import Derived.RowKit3
import Derived.Deep.LoopGhost
import Derived.Deep.QuietTactic
import Derived.BigQuiet
import Derived.WideLaws
import Derived.Deep.DeepCutAuto
import Derived.Deep.CutBlock
import Derived.Lib.Hide
import Derived.Laws.BitsLemmas
import Derived.Laws.Bits64
import Derived.Laws.BitsAllLaws
import Derived.IntWalk
import Derived.Outline
import Derived.WalkSpells
import Derived.Test.YtloemjhhedkhiaaMem
import Derived.Test.YtloemjhhedkhiaaLwMsgParts
import Derived.Test.YtloemjhhedkhiaaOpenMs
namespace Go.Proofs.Ytloemjhhedkhiaa.Ms
set_option linter.unusedVariables false
set_option linter.unusedSimpArgs false
open Go.RowKit Go.Proofs.Ytloemjhhedkhiaa.Mem
theorem wf_u32 {n : Int} (h : (Lit.int .u32 n).wf = true) : 0 ≤ n ∧ n ≤ 4294967295 := by
  have h1 := (Lit.wf_int_iff .u32 n).1 h
  have h2 : IntKind.u32.min = 0 := by decide
  have h3 : IntKind.u32.max = 4294967295 := by decide
  omega
theorem wf_u64 {n : Int} (h : (Lit.int .u64 n).wf = true) : 0 ≤ n ∧ n ≤ 18446744073709551615 := by
  have h1 := (Lit.wf_int_iff .u64 n).1 h
  have h2 : IntKind.u64.min = 0 := by decide
  have h3 : IntKind.u64.max = 18446744073709551615 := by decide
  omega
theorem ok_req {q : ReqV} (h : ok_ReqV q) : okReq q := ⟨wf_u32 h.2.2.2.2.1, wf_u64 h.2.2.2.2.2.1⟩
theorem msgPartsB (q : ReqV) (s : ByteArray) (f : FilterV) (w : World) (wq : ok_ReqV q) (_ : s.size ≤ 140737488351232) (_ : ok_FilterV f) : Calls Try.prog 6 #[.agg #[.int .i64 q.kind, .int .i64 q.seq, .int .i64 q.who, .int .i64 q.role, .int .u32 q.token, .int .u64 q.key, .int .i64 q.call.id, .int .i64 q.call.kind, .int .i64 q.call.src, .int .i64 q.call.dst, .int .i64 q.call.car, .int .i64 q.call.state, .int .i64 q.call.owner, .int .i64 q.call.born, .int .i64 q.id, .int .i64 q.car, .int .i64 q.mode, .int .i64 q.filter.kind, .int .i64 q.filter.n], .string s, .agg #[.int .i64 f.kind, .int .i64 f.n]] w fun e w' => e = .returned (.bool true) ∧ Below w.heap.size w w' :=
  (parts_w q s f w (ok_req wq)).mono fun _ _ h => ⟨h.1, h.2.to_below⟩
end Go.Proofs.Ytloemjhhedkhiaa.Ms
