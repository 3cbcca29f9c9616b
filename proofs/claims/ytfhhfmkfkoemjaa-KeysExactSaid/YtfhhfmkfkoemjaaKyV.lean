/- Layer 10: KeysExact, of what a row hands in. -/
import Derived.Test.YtfhhfmkfkoemjaaProg
import Derived.Below
import Derived.WalkKit
import Derived.KernelRfl
import Derived.RowKit3
import Derived.Deep.LoopGhost
import Derived.Deep.QuietTactic
import Derived.BigQuiet
import Derived.WideLaws
import Derived.Deep.DeepCutAuto
import Derived.Deep.CutBlock
import Derived.Lib.Hide
import Derived.Laws.BitsLemmas
import Derived.Laws.Bits64
import Derived.Laws.BitsAllLaws
import Derived.IntWalk
import Derived.Outline
import Derived.WalkSpells
import Derived.Test.YtfhhfmkfkoemjaaMem
import Derived.Test.YtfhhfmkfkoemjaaLwKeysExact
import Derived.Test.YtfhhfmkfkoemjaaOpenK
namespace Go.Proofs.Ytfhhfmkfkoemjaa.Se6
open Go.RowKit Go.Proofs.Ytfhhfmkfkoemjaa.Mem Go.Proofs.Ytfhhfmkfkoemjaa.Reg Go.Proofs.Ytfhhfmkfkoemjaa.Pk Go.Proofs.Ytfhhfmkfkoemjaa.Si
set_option linter.unusedVariables false
set_option linter.unusedSimpArgs false
theorem wf_u64 {n : Int} (h : (Lit.int .u64 n).wf = true) : 0 ≤ n ∧ n ≤ 18446744073709551615 := by
  have h1 := (Lit.wf_int_iff .u64 n).1 h
  have h2 : IntKind.u64.min = 0 := by decide
  have h3 : IntKind.u64.max = 18446744073709551615 := by decide
  omega
theorem wf_i64E {n : Int} (h : (Lit.int .i64 n).wf = true) : -9223372036854775808 ≤ n ∧ n ≤ 9223372036854775807 := by
  have h1 := (Lit.wf_int_iff .i64 n).1 h
  have h2 : IntKind.i64.min = -9223372036854775808 := by decide
  have h3 : IntKind.i64.max = 9223372036854775807 := by decide
  omega
theorem keysExact (c : Cfg) (ra : Option Addr) (n rc : Nat) (acts : List ActK) (tt : Int) (w : World) (_ : ok_Cfg c) (wa : ActKsIn w ra n rc acts) (_ : (Lit.int .i64 tt).wf = true) :
    Calls Try.prog 12 #[.agg #[.int .i64 c.floors, .int .i64 c.cars, .int .i64 c.seats, .int .i64 c.calls, .int .i64 c.lines, .int .i64 c.keys, .int .i64 c.window, .int .i64 c.burst, .int .i64 c.rate, .int .i64 c.idle, .int .i64 c.inn, .int .i64 c.out, .int .i64 c.feed, .int .i64 c.retries, .int .i64 c.life, .int .i64 c.door, .int .i64 c.holds, .int .u32 c.secret], .slice ra n rc, .int .i64 tt] w fun e w' => e = .returned (.bool true) ∧ Below w.heap.size w w' := by
  obtain ⟨rfl, h1, h2⟩ := wa
  refine (exact_w c ra rc acts tt w h1 (Lib.hid fun z hz => wf_u64 (h2 z hz).2.2.2.1) (Lib.hid fun z hz => wf_i64E (h2 z hz).2.1)).mono ?_
  rintro e w' ⟨rfl, ho⟩
  exact ⟨rfl, ho.to_below⟩
end Go.Proofs.Ytfhhfmkfkoemjaa.Se6
