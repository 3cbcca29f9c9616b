/-
  No cell of these rows narrows 'for every input' (looked for: loops, veiled, ifaces, maps, wideKeys, modest, calm, conditions, laid).
  DERIVED. THE GIVEN ROWS OF THIS SEAT. 8 by the template 'for every input the law returns true; each argument reads behind the call as it read before'; 0 by the template 'total and deterministic' (their statements: YtfjkcegdodpgdaaTotals.lean).
  GIVEN WITH THE SEED: the statements are not yours to turn. If you find one false, say at which input.
  Laid BY PROGRAM, IN A SANDBOX (cutbox-rows.mjs): the forced cells as the released guide's own fill.sh prints them over the translation efaeef75121aa418… (all of the seat's roots in one cut). By AI agents, Wed Nov 11 2026. No macro, syntax, notation, axiom, sorry.
-/
import Derived.Test.YtfjkcegdodpgdaaChecked
import GoSem.Claim
import GoSem.ClaimJoined
import GoSem.ClaimMapViews
import Derived.JoinedTies
import Derived.KernelRfl
namespace Go.Proofs.Ytfjkcegdodpgdaa
/- THE CELL 'sum', in the pinned program and in every row, IS THE sha256 OF THE DUMP (.gsa) THAT YtfjkcegdodpgdaaProg.lean LOADS. Nothing in Lean hashes anything: it is a label: what it is worth is what the hold of that sum in a sandbox is worth. -/
noncomputable def Try.pinned : Pinned := { name := "ytfjkcegdodpgdaa", sum := "efaeef75121aa418946eeab132955dc5a45e8e5199fac6f710d0be70093de7f1", checked := Try.checked }
namespace Rows
def none {H : Type} : Left H := { results := [], args := [] }

/-- 'hoistwaylaw03.FrameExact': WHATEVER THE INPUT: true; the input reads as it did. -/
def frameExactSpec : ChangeSpec := { name := "frameExact", fn := fun _ => fun
  | [d1, d2] => { results := [.lit (.bool true)], args := [d1, d2] }
  | _ => none }
def frameExactRow : OpenClaim := { program := "ytfjkcegdodpgdaa", sum := "efaeef75121aa418946eeab132955dc5a45e8e5199fac6f710d0be70093de7f1", func := "hoistway/hoistwaylaw03.FrameExact", spec := "frameExact", apart := false }
def FrameExactSaid : Prop := frameExactRow.holds Try.pinned (OpenSpec.ofChange frameExactSpec)

/-- ITS FALSE NEIGHBOUR: 'it returns false'. Refute it at one input. -/
def frameExactWrong : ChangeSpec := { name := "frameExact", fn := fun _ => fun
  | [d1, d2] => { results := [.lit (.bool false)], args := [d1, d2] }
  | _ => none }
def FrameExactWrongFalsely : Prop := frameExactRow.holds Try.pinned (OpenSpec.ofChange frameExactWrong)

/-- 'hoistwaylaw03.FrameBack': WHATEVER THE INPUT: true; the input reads as it did. -/
def frameBackSpec : ChangeSpec := { name := "frameBack", fn := fun _ => fun
  | [d1, d2, d3] => { results := [.lit (.bool true)], args := [d1, d2, d3] }
  | _ => none }
def frameBackRow : OpenClaim := { program := "ytfjkcegdodpgdaa", sum := "efaeef75121aa418946eeab132955dc5a45e8e5199fac6f710d0be70093de7f1", func := "hoistway/hoistwaylaw03.FrameBack", spec := "frameBack", apart := false }
def FrameBackSaid : Prop := frameBackRow.holds Try.pinned (OpenSpec.ofChange frameBackSpec)

/-- ITS FALSE NEIGHBOUR: 'it returns false'. Refute it at one input. -/
def frameBackWrong : ChangeSpec := { name := "frameBack", fn := fun _ => fun
  | [d1, d2, d3] => { results := [.lit (.bool false)], args := [d1, d2, d3] }
  | _ => none }
def FrameBackWrongFalsely : Prop := frameBackRow.holds Try.pinned (OpenSpec.ofChange frameBackWrong)

/-- 'hoistwaylaw04.JointCuts': WHATEVER THE INPUT: true; the input reads as it did. -/
def jointCutsSpec : ChangeSpec := { name := "jointCuts", fn := fun _ => fun
  | [d1, d2] => { results := [.lit (.bool true)], args := [d1, d2] }
  | _ => none }
def jointCutsRow : OpenClaim := { program := "ytfjkcegdodpgdaa", sum := "efaeef75121aa418946eeab132955dc5a45e8e5199fac6f710d0be70093de7f1", func := "hoistway/hoistwaylaw04.JointCuts", spec := "jointCuts", apart := false }
def JointCutsSaid : Prop := jointCutsRow.holds Try.pinned (OpenSpec.ofChange jointCutsSpec)

/-- ITS FALSE NEIGHBOUR: 'it returns false'. Refute it at one input. -/
def jointCutsWrong : ChangeSpec := { name := "jointCuts", fn := fun _ => fun
  | [d1, d2] => { results := [.lit (.bool false)], args := [d1, d2] }
  | _ => none }
def JointCutsWrongFalsely : Prop := jointCutsRow.holds Try.pinned (OpenSpec.ofChange jointCutsWrong)

/-- 'hoistwaylaw04.JointBytes': WHATEVER THE INPUT: true; the input reads as it did. -/
def jointBytesSpec : ChangeSpec := { name := "jointBytes", fn := fun _ => fun
  | [d1, d2] => { results := [.lit (.bool true)], args := [d1, d2] }
  | _ => none }
def jointBytesRow : OpenClaim := { program := "ytfjkcegdodpgdaa", sum := "efaeef75121aa418946eeab132955dc5a45e8e5199fac6f710d0be70093de7f1", func := "hoistway/hoistwaylaw04.JointBytes", spec := "jointBytes", apart := false }
def JointBytesSaid : Prop := jointBytesRow.holds Try.pinned (OpenSpec.ofChange jointBytesSpec)

/-- ITS FALSE NEIGHBOUR: 'it returns false'. Refute it at one input. -/
def jointBytesWrong : ChangeSpec := { name := "jointBytes", fn := fun _ => fun
  | [d1, d2] => { results := [.lit (.bool false)], args := [d1, d2] }
  | _ => none }
def JointBytesWrongFalsely : Prop := jointBytesRow.holds Try.pinned (OpenSpec.ofChange jointBytesWrong)

/-- 'hoistwaylaw04.JointExact': WHATEVER THE INPUT: true; the input reads as it did. -/
def jointExactSpec : ChangeSpec := { name := "jointExact", fn := fun _ => fun
  | [d1, d2] => { results := [.lit (.bool true)], args := [d1, d2] }
  | _ => none }
def jointExactRow : OpenClaim := { program := "ytfjkcegdodpgdaa", sum := "efaeef75121aa418946eeab132955dc5a45e8e5199fac6f710d0be70093de7f1", func := "hoistway/hoistwaylaw04.JointExact", spec := "jointExact", apart := false }
def JointExactSaid : Prop := jointExactRow.holds Try.pinned (OpenSpec.ofChange jointExactSpec)

/-- ITS FALSE NEIGHBOUR: 'it returns false'. Refute it at one input. -/
def jointExactWrong : ChangeSpec := { name := "jointExact", fn := fun _ => fun
  | [d1, d2] => { results := [.lit (.bool false)], args := [d1, d2] }
  | _ => none }
def JointExactWrongFalsely : Prop := jointExactRow.holds Try.pinned (OpenSpec.ofChange jointExactWrong)

/-- 'hoistwaylaw04.JointResets': WHATEVER THE INPUT: true; the input reads as it did. -/
def jointResetsSpec : ChangeSpec := { name := "jointResets", fn := fun _ => fun
  | [d1, d2] => { results := [.lit (.bool true)], args := [d1, d2] }
  | _ => none }
def jointResetsRow : OpenClaim := { program := "ytfjkcegdodpgdaa", sum := "efaeef75121aa418946eeab132955dc5a45e8e5199fac6f710d0be70093de7f1", func := "hoistway/hoistwaylaw04.JointResets", spec := "jointResets", apart := false }
def JointResetsSaid : Prop := jointResetsRow.holds Try.pinned (OpenSpec.ofChange jointResetsSpec)

/-- ITS FALSE NEIGHBOUR: 'it returns false'. Refute it at one input. -/
def jointResetsWrong : ChangeSpec := { name := "jointResets", fn := fun _ => fun
  | [d1, d2] => { results := [.lit (.bool false)], args := [d1, d2] }
  | _ => none }
def JointResetsWrongFalsely : Prop := jointResetsRow.holds Try.pinned (OpenSpec.ofChange jointResetsWrong)

/-- 'hoistwaylaw03.FrameCuts': WHATEVER THE INPUT: true; the input reads as it did. -/
def frameCutsSpec : ChangeSpec := { name := "frameCuts", fn := fun _ => fun
  | [d1, d2] => { results := [.lit (.bool true)], args := [d1, d2] }
  | _ => none }
def frameCutsRow : OpenClaim := { program := "ytfjkcegdodpgdaa", sum := "efaeef75121aa418946eeab132955dc5a45e8e5199fac6f710d0be70093de7f1", func := "hoistway/hoistwaylaw03.FrameCuts", spec := "frameCuts", inPlace := ["internal/abi.NoEscape"], apart := false }
def FrameCutsSaid : Prop := frameCutsRow.holds Try.pinned (OpenSpec.ofChange frameCutsSpec)

/-- ITS FALSE NEIGHBOUR: 'it returns false'. Refute it at one input. -/
def frameCutsWrong : ChangeSpec := { name := "frameCuts", fn := fun _ => fun
  | [d1, d2] => { results := [.lit (.bool false)], args := [d1, d2] }
  | _ => none }
def FrameCutsWrongFalsely : Prop := frameCutsRow.holds Try.pinned (OpenSpec.ofChange frameCutsWrong)

/-- 'hoistwaylaw03.FrameRow': WHATEVER THE INPUT: true; the input reads as it did. -/
def frameRowSpec : ChangeSpec := { name := "frameRow", fn := fun _ => fun
  | [d1, d2] => { results := [.lit (.bool true)], args := [d1, d2] }
  | _ => none }
def frameRowRow : OpenClaim := { program := "ytfjkcegdodpgdaa", sum := "efaeef75121aa418946eeab132955dc5a45e8e5199fac6f710d0be70093de7f1", func := "hoistway/hoistwaylaw03.FrameRow", spec := "frameRow", inPlace := ["internal/abi.NoEscape"], apart := false }
def FrameRowSaid : Prop := frameRowRow.holds Try.pinned (OpenSpec.ofChange frameRowSpec)

/-- ITS FALSE NEIGHBOUR: 'it returns false'. Refute it at one input. -/
def frameRowWrong : ChangeSpec := { name := "frameRow", fn := fun _ => fun
  | [d1, d2] => { results := [.lit (.bool false)], args := [d1, d2] }
  | _ => none }
def FrameRowWrongFalsely : Prop := frameRowRow.holds Try.pinned (OpenSpec.ofChange frameRowWrong)

/- THE SECOND FORM. 'bulk': how many values and letters a reading holds, each counted each time it is reached (what is shared counts as often as it is met; a slice's spare places count too). A statement '..UptoSaid' is the law's where the arguments, and the package variables that the reading takes, are together of bulk at most 1048576: NARROWER than '..Said'. Prove '..Said' where nothing that the law and all that it calls make is longer than what came in: it says more and counts as full. Else prove '..UptoSaid'. A law counts once. -/
mutual
def uptoBulk {H : Type} : DataW H → Nat
  | .lit (.string bytes) => bytes.length + 1
  | .lit _ => 1
  | .nil => 1
  | .ptr d => uptoBulk d + 1
  | .slice elems spare => uptoBulkAll elems + uptoBulkAll spare + 1
  | .agg parts => uptoBulkAll parts + 1
  | .iface _ d => uptoBulk d + 1
  | .map entries => uptoBulkEntries entries + 1
  | .held _ => 1
def uptoBulkAll {H : Type} : List (DataW H) → Nat
  | [] => 0
  | d :: r => uptoBulk d + uptoBulkAll r
def uptoBulkEntries {H : Type} : List (Lit × DataW H) → Nat
  | [] => 0
  | x :: r => uptoBulkEntry x + uptoBulkEntries r
def uptoBulkEntry {H : Type} : Lit × DataW H → Nat
  | (.string bytes, d) => bytes.length + uptoBulk d + 1
  | (_, d) => uptoBulk d + 1
 end
def uptoSmall : (H : Type) → List (DataW H) → Bool := fun _ ds => decide (uptoBulkAll ds ≤ 1048576)
def OpenSpec.upto (s : _root_.Go.ChangeSpec) : _root_.Go.OpenSpec := { _root_.Go.OpenSpec.ofChange s with cond := some uptoSmall }

/-- 'hoistwaylaw03.FrameExact', WHERE WHAT IT READS IS OF BULK AT MOST 1048576: true; the input reads as it did. -/
def frameExactUptoRow : OpenClaim := { program := "ytfjkcegdodpgdaa", sum := "efaeef75121aa418946eeab132955dc5a45e8e5199fac6f710d0be70093de7f1", func := "hoistway/hoistwaylaw03.FrameExact", spec := "frameExact", apart := false, narrowed := true }
def FrameExactUptoSaid : Prop := frameExactUptoRow.holds Try.pinned (OpenSpec.upto frameExactSpec)

/-- 'hoistwaylaw03.FrameBack', WHERE WHAT IT READS IS OF BULK AT MOST 1048576: true; the input reads as it did. -/
def frameBackUptoRow : OpenClaim := { program := "ytfjkcegdodpgdaa", sum := "efaeef75121aa418946eeab132955dc5a45e8e5199fac6f710d0be70093de7f1", func := "hoistway/hoistwaylaw03.FrameBack", spec := "frameBack", apart := false, narrowed := true }
def FrameBackUptoSaid : Prop := frameBackUptoRow.holds Try.pinned (OpenSpec.upto frameBackSpec)

/-- 'hoistwaylaw04.JointCuts', WHERE WHAT IT READS IS OF BULK AT MOST 1048576: true; the input reads as it did. -/
def jointCutsUptoRow : OpenClaim := { program := "ytfjkcegdodpgdaa", sum := "efaeef75121aa418946eeab132955dc5a45e8e5199fac6f710d0be70093de7f1", func := "hoistway/hoistwaylaw04.JointCuts", spec := "jointCuts", apart := false, narrowed := true }
def JointCutsUptoSaid : Prop := jointCutsUptoRow.holds Try.pinned (OpenSpec.upto jointCutsSpec)

/-- 'hoistwaylaw04.JointBytes', WHERE WHAT IT READS IS OF BULK AT MOST 1048576: true; the input reads as it did. -/
def jointBytesUptoRow : OpenClaim := { program := "ytfjkcegdodpgdaa", sum := "efaeef75121aa418946eeab132955dc5a45e8e5199fac6f710d0be70093de7f1", func := "hoistway/hoistwaylaw04.JointBytes", spec := "jointBytes", apart := false, narrowed := true }
def JointBytesUptoSaid : Prop := jointBytesUptoRow.holds Try.pinned (OpenSpec.upto jointBytesSpec)

/-- 'hoistwaylaw04.JointExact', WHERE WHAT IT READS IS OF BULK AT MOST 1048576: true; the input reads as it did. -/
def jointExactUptoRow : OpenClaim := { program := "ytfjkcegdodpgdaa", sum := "efaeef75121aa418946eeab132955dc5a45e8e5199fac6f710d0be70093de7f1", func := "hoistway/hoistwaylaw04.JointExact", spec := "jointExact", apart := false, narrowed := true }
def JointExactUptoSaid : Prop := jointExactUptoRow.holds Try.pinned (OpenSpec.upto jointExactSpec)

/-- 'hoistwaylaw04.JointResets', WHERE WHAT IT READS IS OF BULK AT MOST 1048576: true; the input reads as it did. -/
def jointResetsUptoRow : OpenClaim := { program := "ytfjkcegdodpgdaa", sum := "efaeef75121aa418946eeab132955dc5a45e8e5199fac6f710d0be70093de7f1", func := "hoistway/hoistwaylaw04.JointResets", spec := "jointResets", apart := false, narrowed := true }
def JointResetsUptoSaid : Prop := jointResetsUptoRow.holds Try.pinned (OpenSpec.upto jointResetsSpec)

/-- 'hoistwaylaw03.FrameCuts', WHERE WHAT IT READS IS OF BULK AT MOST 1048576: true; the input reads as it did. -/
def frameCutsUptoRow : OpenClaim := { program := "ytfjkcegdodpgdaa", sum := "efaeef75121aa418946eeab132955dc5a45e8e5199fac6f710d0be70093de7f1", func := "hoistway/hoistwaylaw03.FrameCuts", spec := "frameCuts", inPlace := ["internal/abi.NoEscape"], apart := false, narrowed := true }
def FrameCutsUptoSaid : Prop := frameCutsUptoRow.holds Try.pinned (OpenSpec.upto frameCutsSpec)

/-- 'hoistwaylaw03.FrameRow', WHERE WHAT IT READS IS OF BULK AT MOST 1048576: true; the input reads as it did. -/
def frameRowUptoRow : OpenClaim := { program := "ytfjkcegdodpgdaa", sum := "efaeef75121aa418946eeab132955dc5a45e8e5199fac6f710d0be70093de7f1", func := "hoistway/hoistwaylaw03.FrameRow", spec := "frameRow", inPlace := ["internal/abi.NoEscape"], apart := false, narrowed := true }
def FrameRowUptoSaid : Prop := frameRowUptoRow.holds Try.pinned (OpenSpec.upto frameRowSpec)

end Rows
end Go.Proofs.Ytfjkcegdodpgdaa
