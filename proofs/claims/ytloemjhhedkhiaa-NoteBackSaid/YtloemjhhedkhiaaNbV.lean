/- Layer 15: NoteBack, of what a row hands in. -/
import Derived.Test.YtloemjhhedkhiaaProg
import Derived.Below
import Derived.WalkKit
import Derived.KernelRfl
import Derived.RowKit3
import Derived.Deep.LoopGhost
import Derived.Deep.QuietTactic
import Derived.BigQuiet
import Derived.WideLaws
import Derived.Deep.DeepCutAuto
import Derived.Deep.CutBlock
import Derived.Lib.Hide
import Derived.Laws.BitsLemmas
import Derived.Laws.Bits64
import Derived.Laws.BitsAllLaws
import Derived.IntWalk
import Derived.Outline
import Derived.WalkSpells
import Derived.Test.YtloemjhhedkhiaaMem
import Derived.Test.YtloemjhhedkhiaaLwNoteBack
import Derived.Test.YtloemjhhedkhiaaOpenNt
namespace Go.Proofs.Ytloemjhhedkhiaa.Nt
set_option linter.unusedVariables false
set_option linter.unusedSimpArgs false
open Go.RowKit Go.Proofs.Ytloemjhhedkhiaa.Mem
theorem noteBackB (a : AnsV) (sa : Option Addr) (sc : Nat) (b : AnsV) (ta : Option Addr) (tc : Nat) (n m : NoteV) (w : World) (h1 : ok_AnsV w a sa sc) (h2 : ok_AnsV w b ta tc) (_ : ok_NoteV n) (_ : ok_NoteV m) :
    Calls Try.prog 9 #[.agg #[.int .i64 a.seq, .int .i64 a.code, .int .i64 a.index, .int .i64 a.session, .int .u32 a.pass, .slice sa a.calls.length sc], .agg #[.int .i64 b.seq, .int .i64 b.code, .int .i64 b.index, .int .i64 b.session, .int .u32 b.pass, .slice ta b.calls.length tc], .agg #[.int .i64 n.index, .int .i64 n.chg.index, .int .i64 n.chg.call.id, .int .i64 n.chg.call.kind, .int .i64 n.chg.call.src, .int .i64 n.chg.call.dst, .int .i64 n.chg.call.car, .int .i64 n.chg.call.state, .int .i64 n.chg.call.owner, .int .i64 n.chg.call.born, .int .i64 n.chg.car, .int .i64 n.chg.mode], .agg #[.int .i64 m.index, .int .i64 m.chg.index, .int .i64 m.chg.call.id, .int .i64 m.chg.call.kind, .int .i64 m.chg.call.src, .int .i64 m.chg.call.dst, .int .i64 m.chg.call.car, .int .i64 m.chg.call.state, .int .i64 m.chg.call.owner, .int .i64 m.chg.call.born, .int .i64 m.chg.car, .int .i64 m.chg.mode]] w fun e w' => e = .returned (.bool true) ∧ Below w.heap.size w w' :=
  (back_w a sa sc b ta tc n m w h1.1 h2.1 h1.2 h2.2).mono fun e w' h => ⟨h.1, h.2.to_below⟩
end Go.Proofs.Ytloemjhhedkhiaa.Nt
