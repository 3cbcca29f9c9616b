/- Layer 35: MintSame, of what a row hands in. -/
import Derived.Test.YthflkhalipkdgaaProg
import Derived.Below
import Derived.WalkKit
import Derived.KernelRfl
import Derived.RowKit3
import Derived.Deep.LoopGhost
import Derived.Deep.QuietTactic
import Derived.BigQuiet
import Derived.WideLaws
import Derived.Deep.DeepCutAuto
import Derived.Deep.CutBlock
import Derived.Lib.Hide
import Derived.Laws.BitsLemmas
import Derived.Laws.Bits64
import Derived.Laws.BitsAllLaws
import Derived.IntWalk
import Derived.Outline
import Derived.WalkSpells
import Derived.Test.YthflkhalipkdgaaGA
import Derived.Test.YthflkhalipkdgaaLwMintSame
import Derived.Test.YthflkhalipkdgaaMaV
import Derived.Test.YthflkhalipkdgaaOpenMn
namespace Go.Proofs.Ythflkhalipkdgaa.Mn
set_option maxRecDepth 20000
open Go.RowKit Go.Proofs.Ythflkhalipkdgaa.Mem Go.Proofs.Ythflkhalipkdgaa.Reg Go.Proofs.Ythflkhalipkdgaa.Wk Go.Proofs.Ythflkhalipkdgaa.Si Go.Proofs.Ythflkhalipkdgaa.Ca Go.Proofs.Ythflkhalipkdgaa.Ms
set_option linter.unusedVariables false
set_option linter.unusedSimpArgs false
theorem mintSame (s : Int) (c : Cfg) (n now : Int) (w : World) (hs : (Lit.int .u64 s).wf = true) (_ : ok_Cfg c) (_ : (Lit.int .i64 n).wf = true) (_ : (Lit.int .i64 now).wf = true) : Calls Try.prog 4 #[.int .u64 s, .agg #[.int .i64 c.floors, .int .i64 c.cars, .int .i64 c.seats, .int .i64 c.calls, .int .i64 c.lines, .int .i64 c.keys, .int .i64 c.window, .int .i64 c.burst, .int .i64 c.rate, .int .i64 c.idle, .int .i64 c.inn, .int .i64 c.out, .int .i64 c.feed, .int .i64 c.retries, .int .i64 c.life, .int .i64 c.door, .int .i64 c.holds, .int .u32 c.secret], .int .i64 n, .int .i64 now] w fun e w' => e = .returned (.bool true) ∧ Below w.heap.size w w' := by
  have h1 := wf_u64M hs
  obtain ⟨x, rfl⟩ := Int.eq_ofNat_of_zero_le h1.1
  have h2 : 0 ≤ IntKind.u64.wrap n := by rw [IntKind.wrap_u64]; omega
  have h3 : (IntKind.u64.wrap n).tmod 300 = IntKind.u64.wrap n % 300 := Int.tmod_eq_emod_of_nonneg h2
  obtain ⟨k, hk⟩ := Int.eq_ofNat_of_zero_le (show 0 ≤ IntKind.u64.wrap n % 300 by omega)
  have h4 : k < 300 := by omega
  have hpre := evAll_take (s := seedV x) (c := c) (j := k) (k := k / 2) (by omega) (by omega)
  refine (sameM x c n now k (k / 2) w (by omega) (by rw [h3, hk]; exact IntWalk.i64_in _ (by omega)) (by rw [Int.tdiv_eq_ediv_of_nonneg (by omega), IntWalk.i64_in _ (by omega)]; omega) h4 (by rw [IntWalk.i64_in _ (by omega)]; omega) (by omega) (Lib.hid hpre) (by rw [hpre, List.length_take]; omega) (by rw [hpre, List.length_take]; omega)).mono ?_
  rintro e w' ⟨rfl, ho⟩
  exact ⟨rfl, ho.to_below⟩
end Go.Proofs.Ythflkhalipkdgaa.Mn
