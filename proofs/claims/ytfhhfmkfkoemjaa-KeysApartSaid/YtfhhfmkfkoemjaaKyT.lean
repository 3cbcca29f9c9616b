/- Layer 10: KeysApart, of what a row hands in. -/
import Derived.Test.YtfhhfmkfkoemjaaProg
import Derived.Below
import Derived.WalkKit
import Derived.KernelRfl
import Derived.RowKit3
import Derived.Deep.LoopGhost
import Derived.Deep.QuietTactic
import Derived.BigQuiet
import Derived.WideLaws
import Derived.Deep.DeepCutAuto
import Derived.Deep.CutBlock
import Derived.Lib.Hide
import Derived.Laws.BitsLemmas
import Derived.Laws.Bits64
import Derived.Laws.BitsAllLaws
import Derived.IntWalk
import Derived.Outline
import Derived.WalkSpells
import Derived.Test.YtfhhfmkfkoemjaaMem
import Derived.Test.YtfhhfmkfkoemjaaLwKeysApart
import Derived.Test.YtfhhfmkfkoemjaaOpenK
namespace Go.Proofs.Ytfhhfmkfkoemjaa.Se6
open Go.RowKit Go.Proofs.Ytfhhfmkfkoemjaa.Mem Go.Proofs.Ytfhhfmkfkoemjaa.Reg Go.Proofs.Ytfhhfmkfkoemjaa.Pk Go.Proofs.Ytfhhfmkfkoemjaa.Si
set_option linter.unusedVariables false
set_option linter.unusedSimpArgs false
theorem wf_u64 {n : Int} (h : (Lit.int .u64 n).wf = true) : 0 ≤ n ∧ n ≤ 18446744073709551615 := by
  have h1 := (Lit.wf_int_iff .u64 n).1 h
  have h2 : IntKind.u64.min = 0 := by decide
  have h3 : IntKind.u64.max = 18446744073709551615 := by decide
  omega
theorem ok_key {x : ActK} (h : ok_ActK x) : 0 ≤ x.key ∧ x.key ≤ 18446744073709551615 := wf_u64 h.2.2.2.1
theorem keysApart (c : Cfg) (ra : Option Addr) (n rc : Nat) (acts : List ActK) (u v : ActK) (w : World) (_ : ok_Cfg c) (wa : ActKsIn w ra n rc acts) (wu : ok_ActK u) (wv : ok_ActK v) :
    Calls Try.prog 11 #[.agg #[.int .i64 c.floors, .int .i64 c.cars, .int .i64 c.seats, .int .i64 c.calls, .int .i64 c.lines, .int .i64 c.keys, .int .i64 c.window, .int .i64 c.burst, .int .i64 c.rate, .int .i64 c.idle, .int .i64 c.inn, .int .i64 c.out, .int .i64 c.feed, .int .i64 c.retries, .int .i64 c.life, .int .i64 c.door, .int .i64 c.holds, .int .u32 c.secret], .slice ra n rc, .agg #[.int .i64 u.kind, .int .i64 u.now, .int .i64 u.who, .int .u64 u.key, .string u.body], .agg #[.int .i64 v.kind, .int .i64 v.now, .int .i64 v.who, .int .u64 v.key, .string v.body]] w fun e w' => e = .returned (.bool true) ∧ Below w.heap.size w w' := by
  obtain ⟨rfl, h1, h2⟩ := wa
  refine (apart_w c ra rc acts u v w h1 (Lib.hid fun z hz => ok_key (h2 z hz)) (ok_key wu).1 (ok_key wu).2 (ok_key wv).1 (ok_key wv).2).mono ?_
  rintro e w' ⟨rfl, ho⟩
  exact ⟨rfl, ho.to_below⟩
end Go.Proofs.Ytfhhfmkfkoemjaa.Se6
