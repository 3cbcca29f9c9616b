/- Layer 15: NoteSeqs, of what a row hands in. -/
import Derived.Test.YtloemjhhedkhiaaProg
import Derived.Below
import Derived.WalkKit
import Derived.KernelRfl
import Derived.RowKit3
import Derived.Deep.LoopGhost
import Derived.Deep.QuietTactic
import Derived.BigQuiet
import Derived.WideLaws
import Derived.Deep.DeepCutAuto
import Derived.Deep.CutBlock
import Derived.Lib.Hide
import Derived.Laws.BitsLemmas
import Derived.Laws.Bits64
import Derived.Laws.BitsAllLaws
import Derived.IntWalk
import Derived.Outline
import Derived.WalkSpells
import Derived.Test.YtloemjhhedkhiaaMem
import Derived.Test.YtloemjhhedkhiaaLwNoteSeqs
import Derived.Test.YtloemjhhedkhiaaOpenNt
namespace Go.Proofs.Ytloemjhhedkhiaa.Nt
set_option linter.unusedVariables false
set_option linter.unusedSimpArgs false
open Go.RowKit Go.Proofs.Ytloemjhhedkhiaa.Mem
theorem noteSeqsB (a : AnsV) (sa : Option Addr) (sc : Nat) (b : AnsV) (ta : Option Addr) (tc : Nat) (n : Int) (w : World) (h1 : ok_AnsV w a sa sc) (h2 : ok_AnsV w b ta tc) (_ : (Lit.int .i64 n).wf = true) :
    Calls Try.prog 10 #[.agg #[.int .i64 a.seq, .int .i64 a.code, .int .i64 a.index, .int .i64 a.session, .int .u32 a.pass, .slice sa a.calls.length sc], .agg #[.int .i64 b.seq, .int .i64 b.code, .int .i64 b.index, .int .i64 b.session, .int .u32 b.pass, .slice ta b.calls.length tc], .int .i64 n] w fun e w' => e = .returned (.bool true) ∧ Below w.heap.size w w' :=
  (seqs_w a sa sc b ta tc n w h1.1 h2.1 h1.2 h2.2).mono fun e w' h => ⟨h.1, h.2.to_below⟩
end Go.Proofs.Ytloemjhhedkhiaa.Nt
