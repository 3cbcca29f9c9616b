/-
  No cell of these rows narrows 'for every input' (looked for: loops, veiled, ifaces, maps, wideKeys, modest, calm, conditions, laid).
  DERIVED. THE GIVEN ROWS OF THIS SEAT. 6 by the template 'for every input the law returns true; each argument reads behind the call as it read before'; 0 by the template 'total and deterministic' (their statements: YtnanihffljpdbaaTotals.lean).
  GIVEN WITH THE SEED: the statements are not yours to turn. If you find one false, say at which input.
  Laid BY PROGRAM, IN A SANDBOX (cutbox-rows.mjs): the forced cells as the released guide's own fill.sh prints them over the translation ec98ecb3b1fcda44… (all of the seat's roots in one cut). By AI agents, Wed Nov 11 2026. No macro, syntax, notation, axiom, sorry.
-/
import Derived.Test.YtnanihffljpdbaaChecked
import GoSem.Claim
import GoSem.ClaimJoined
import GoSem.ClaimMapViews
import Derived.JoinedTies
import Derived.KernelRfl
namespace Go.Proofs.Ytnanihffljpdbaa
/- THE CELL 'sum', in the pinned program and in every row, IS THE sha256 OF THE DUMP (.gsa) THAT YtnanihffljpdbaaProg.lean LOADS. Nothing in Lean hashes anything: it is a label: what it is worth is what the hold of that sum in a sandbox is worth. -/
noncomputable def Try.pinned : Pinned := { name := "ytnanihffljpdbaa", sum := "ec98ecb3b1fcda44f3c19639c57270d7f4a8f6ef061a2223b7b731e45fbff446", checked := Try.checked }
namespace Rows
def none {H : Type} : Left H := { results := [], args := [] }

/-- 'hoistwaylaw09.BookReplays': WHATEVER THE INPUT: true; the input reads as it did. -/
def bookReplaysSpec : ChangeSpec := { name := "bookReplays", fn := fun _ => fun
  | [d1, d2] => { results := [.lit (.bool true)], args := [d1, d2] }
  | _ => none }
def bookReplaysRow : OpenClaim := { program := "ytnanihffljpdbaa", sum := "ec98ecb3b1fcda44f3c19639c57270d7f4a8f6ef061a2223b7b731e45fbff446", func := "hoistway/hoistwaylaw09.BookReplays", spec := "bookReplays", inPlace := ["slices.overlaps[hoistway/shelf.Pair[int, hoistway/api.Call]]"], unfollowed := true, recurses := true, apart := false }
def BookReplaysSaid : Prop := bookReplaysRow.holds Try.pinned (OpenSpec.ofChange bookReplaysSpec)

/-- ITS FALSE NEIGHBOUR: 'it returns false'. Refute it at one input. -/
def bookReplaysWrong : ChangeSpec := { name := "bookReplays", fn := fun _ => fun
  | [d1, d2] => { results := [.lit (.bool false)], args := [d1, d2] }
  | _ => none }
def BookReplaysWrongFalsely : Prop := bookReplaysRow.holds Try.pinned (OpenSpec.ofChange bookReplaysWrong)

/-- 'hoistwaylaw09.BookApart': WHATEVER THE INPUT: true; the input reads as it did. -/
def bookApartSpec : ChangeSpec := { name := "bookApart", fn := fun _ => fun
  | [d1, d2, d3, d4, d5] => { results := [.lit (.bool true)], args := [d1, d2, d3, d4, d5] }
  | _ => none }
def bookApartRow : OpenClaim := { program := "ytnanihffljpdbaa", sum := "ec98ecb3b1fcda44f3c19639c57270d7f4a8f6ef061a2223b7b731e45fbff446", func := "hoistway/hoistwaylaw09.BookApart", spec := "bookApart", inPlace := ["slices.overlaps[hoistway/shelf.Pair[int, hoistway/api.Call]]"], unfollowed := true, recurses := true, apart := false }
def BookApartSaid : Prop := bookApartRow.holds Try.pinned (OpenSpec.ofChange bookApartSpec)

/-- ITS FALSE NEIGHBOUR: 'it returns false'. Refute it at one input. -/
def bookApartWrong : ChangeSpec := { name := "bookApart", fn := fun _ => fun
  | [d1, d2, d3, d4, d5] => { results := [.lit (.bool false)], args := [d1, d2, d3, d4, d5] }
  | _ => none }
def BookApartWrongFalsely : Prop := bookApartRow.holds Try.pinned (OpenSpec.ofChange bookApartWrong)

/-- 'hoistwaylaw09.BookExact': WHATEVER THE INPUT: true; the input reads as it did. -/
def bookExactSpec : ChangeSpec := { name := "bookExact", fn := fun _ => fun
  | [d1, d2, d3] => { results := [.lit (.bool true)], args := [d1, d2, d3] }
  | _ => none }
def bookExactRow : OpenClaim := { program := "ytnanihffljpdbaa", sum := "ec98ecb3b1fcda44f3c19639c57270d7f4a8f6ef061a2223b7b731e45fbff446", func := "hoistway/hoistwaylaw09.BookExact", spec := "bookExact", inPlace := ["slices.overlaps[hoistway/shelf.Pair[int, hoistway/api.Call]]"], unfollowed := true, recurses := true, apart := false }
def BookExactSaid : Prop := bookExactRow.holds Try.pinned (OpenSpec.ofChange bookExactSpec)

/-- ITS FALSE NEIGHBOUR: 'it returns false'. Refute it at one input. -/
def bookExactWrong : ChangeSpec := { name := "bookExact", fn := fun _ => fun
  | [d1, d2, d3] => { results := [.lit (.bool false)], args := [d1, d2, d3] }
  | _ => none }
def BookExactWrongFalsely : Prop := bookExactRow.holds Try.pinned (OpenSpec.ofChange bookExactWrong)

/-- 'hoistwaylaw09.BookGoes': WHATEVER THE INPUT: true; the input reads as it did. -/
def bookGoesSpec : ChangeSpec := { name := "bookGoes", fn := fun _ => fun
  | [d1, d2, d3] => { results := [.lit (.bool true)], args := [d1, d2, d3] }
  | _ => none }
def bookGoesRow : OpenClaim := { program := "ytnanihffljpdbaa", sum := "ec98ecb3b1fcda44f3c19639c57270d7f4a8f6ef061a2223b7b731e45fbff446", func := "hoistway/hoistwaylaw09.BookGoes", spec := "bookGoes", inPlace := ["slices.overlaps[hoistway/shelf.Pair[int, hoistway/api.Call]]"], unfollowed := true, recurses := true, apart := false }
def BookGoesSaid : Prop := bookGoesRow.holds Try.pinned (OpenSpec.ofChange bookGoesSpec)

/-- ITS FALSE NEIGHBOUR: 'it returns false'. Refute it at one input. -/
def bookGoesWrong : ChangeSpec := { name := "bookGoes", fn := fun _ => fun
  | [d1, d2, d3] => { results := [.lit (.bool false)], args := [d1, d2, d3] }
  | _ => none }
def BookGoesWrongFalsely : Prop := bookGoesRow.holds Try.pinned (OpenSpec.ofChange bookGoesWrong)

/-- 'hoistwaylaw11.VaultOne': WHATEVER THE INPUT: true; the input reads as it did. -/
def vaultOneSpec : ChangeSpec := { name := "vaultOne", fn := fun _ => fun
  | [d1, d2] => { results := [.lit (.bool true)], args := [d1, d2] }
  | _ => none }
def vaultOneRow : OpenClaim := { program := "ytnanihffljpdbaa", sum := "ec98ecb3b1fcda44f3c19639c57270d7f4a8f6ef061a2223b7b731e45fbff446", func := "hoistway/hoistwaylaw11.VaultOne", spec := "vaultOne", inPlace := ["slices.overlaps[hoistway/shelf.Pair[int, hoistway/api.Call]]"], unfollowed := true, recurses := true, apart := false }
def VaultOneSaid : Prop := vaultOneRow.holds Try.pinned (OpenSpec.ofChange vaultOneSpec)

/-- ITS FALSE NEIGHBOUR: 'it returns false'. Refute it at one input. -/
def vaultOneWrong : ChangeSpec := { name := "vaultOne", fn := fun _ => fun
  | [d1, d2] => { results := [.lit (.bool false)], args := [d1, d2] }
  | _ => none }
def VaultOneWrongFalsely : Prop := vaultOneRow.holds Try.pinned (OpenSpec.ofChange vaultOneWrong)

/-- 'hoistwaylaw11.VaultTicks': WHATEVER THE INPUT: true; the input reads as it did. -/
def vaultTicksSpec : ChangeSpec := { name := "vaultTicks", fn := fun _ => fun
  | [d1, d2, d3, d4] => { results := [.lit (.bool true)], args := [d1, d2, d3, d4] }
  | _ => none }
def vaultTicksRow : OpenClaim := { program := "ytnanihffljpdbaa", sum := "ec98ecb3b1fcda44f3c19639c57270d7f4a8f6ef061a2223b7b731e45fbff446", func := "hoistway/hoistwaylaw11.VaultTicks", spec := "vaultTicks", inPlace := ["slices.overlaps[hoistway/shelf.Pair[int, hoistway/api.Call]]"], unfollowed := true, recurses := true, apart := false }
def VaultTicksSaid : Prop := vaultTicksRow.holds Try.pinned (OpenSpec.ofChange vaultTicksSpec)

/-- ITS FALSE NEIGHBOUR: 'it returns false'. Refute it at one input. -/
def vaultTicksWrong : ChangeSpec := { name := "vaultTicks", fn := fun _ => fun
  | [d1, d2, d3, d4] => { results := [.lit (.bool false)], args := [d1, d2, d3, d4] }
  | _ => none }
def VaultTicksWrongFalsely : Prop := vaultTicksRow.holds Try.pinned (OpenSpec.ofChange vaultTicksWrong)

/- THE SECOND FORM. 'bulk': how many values and letters a reading holds, each counted each time it is reached (what is shared counts as often as it is met; a slice's spare places count too). A statement '..UptoSaid' is the law's where the arguments, and the package variables that the reading takes, are together of bulk at most 1048576: NARROWER than '..Said'. Prove '..Said' where nothing that the law and all that it calls make is longer than what came in: it says more and counts as full. Else prove '..UptoSaid'. A law counts once. -/
mutual
def uptoBulk {H : Type} : DataW H → Nat
  | .lit (.string bytes) => bytes.length + 1
  | .lit _ => 1
  | .nil => 1
  | .ptr d => uptoBulk d + 1
  | .slice elems spare => uptoBulkAll elems + uptoBulkAll spare + 1
  | .agg parts => uptoBulkAll parts + 1
  | .iface _ d => uptoBulk d + 1
  | .map entries => uptoBulkEntries entries + 1
  | .held _ => 1
def uptoBulkAll {H : Type} : List (DataW H) → Nat
  | [] => 0
  | d :: r => uptoBulk d + uptoBulkAll r
def uptoBulkEntries {H : Type} : List (Lit × DataW H) → Nat
  | [] => 0
  | x :: r => uptoBulkEntry x + uptoBulkEntries r
def uptoBulkEntry {H : Type} : Lit × DataW H → Nat
  | (.string bytes, d) => bytes.length + uptoBulk d + 1
  | (_, d) => uptoBulk d + 1
 end
def uptoSmall : (H : Type) → List (DataW H) → Bool := fun _ ds => decide (uptoBulkAll ds ≤ 1048576)
def OpenSpec.upto (s : _root_.Go.ChangeSpec) : _root_.Go.OpenSpec := { _root_.Go.OpenSpec.ofChange s with cond := some uptoSmall }

/-- 'hoistwaylaw09.BookReplays', WHERE WHAT IT READS IS OF BULK AT MOST 1048576: true; the input reads as it did. -/
def bookReplaysUptoRow : OpenClaim := { program := "ytnanihffljpdbaa", sum := "ec98ecb3b1fcda44f3c19639c57270d7f4a8f6ef061a2223b7b731e45fbff446", func := "hoistway/hoistwaylaw09.BookReplays", spec := "bookReplays", inPlace := ["slices.overlaps[hoistway/shelf.Pair[int, hoistway/api.Call]]"], unfollowed := true, recurses := true, apart := false, narrowed := true }
def BookReplaysUptoSaid : Prop := bookReplaysUptoRow.holds Try.pinned (OpenSpec.upto bookReplaysSpec)

/-- 'hoistwaylaw09.BookApart', WHERE WHAT IT READS IS OF BULK AT MOST 1048576: true; the input reads as it did. -/
def bookApartUptoRow : OpenClaim := { program := "ytnanihffljpdbaa", sum := "ec98ecb3b1fcda44f3c19639c57270d7f4a8f6ef061a2223b7b731e45fbff446", func := "hoistway/hoistwaylaw09.BookApart", spec := "bookApart", inPlace := ["slices.overlaps[hoistway/shelf.Pair[int, hoistway/api.Call]]"], unfollowed := true, recurses := true, apart := false, narrowed := true }
def BookApartUptoSaid : Prop := bookApartUptoRow.holds Try.pinned (OpenSpec.upto bookApartSpec)

/-- 'hoistwaylaw09.BookExact', WHERE WHAT IT READS IS OF BULK AT MOST 1048576: true; the input reads as it did. -/
def bookExactUptoRow : OpenClaim := { program := "ytnanihffljpdbaa", sum := "ec98ecb3b1fcda44f3c19639c57270d7f4a8f6ef061a2223b7b731e45fbff446", func := "hoistway/hoistwaylaw09.BookExact", spec := "bookExact", inPlace := ["slices.overlaps[hoistway/shelf.Pair[int, hoistway/api.Call]]"], unfollowed := true, recurses := true, apart := false, narrowed := true }
def BookExactUptoSaid : Prop := bookExactUptoRow.holds Try.pinned (OpenSpec.upto bookExactSpec)

/-- 'hoistwaylaw09.BookGoes', WHERE WHAT IT READS IS OF BULK AT MOST 1048576: true; the input reads as it did. -/
def bookGoesUptoRow : OpenClaim := { program := "ytnanihffljpdbaa", sum := "ec98ecb3b1fcda44f3c19639c57270d7f4a8f6ef061a2223b7b731e45fbff446", func := "hoistway/hoistwaylaw09.BookGoes", spec := "bookGoes", inPlace := ["slices.overlaps[hoistway/shelf.Pair[int, hoistway/api.Call]]"], unfollowed := true, recurses := true, apart := false, narrowed := true }
def BookGoesUptoSaid : Prop := bookGoesUptoRow.holds Try.pinned (OpenSpec.upto bookGoesSpec)

/-- 'hoistwaylaw11.VaultOne', WHERE WHAT IT READS IS OF BULK AT MOST 1048576: true; the input reads as it did. -/
def vaultOneUptoRow : OpenClaim := { program := "ytnanihffljpdbaa", sum := "ec98ecb3b1fcda44f3c19639c57270d7f4a8f6ef061a2223b7b731e45fbff446", func := "hoistway/hoistwaylaw11.VaultOne", spec := "vaultOne", inPlace := ["slices.overlaps[hoistway/shelf.Pair[int, hoistway/api.Call]]"], unfollowed := true, recurses := true, apart := false, narrowed := true }
def VaultOneUptoSaid : Prop := vaultOneUptoRow.holds Try.pinned (OpenSpec.upto vaultOneSpec)

/-- 'hoistwaylaw11.VaultTicks', WHERE WHAT IT READS IS OF BULK AT MOST 1048576: true; the input reads as it did. -/
def vaultTicksUptoRow : OpenClaim := { program := "ytnanihffljpdbaa", sum := "ec98ecb3b1fcda44f3c19639c57270d7f4a8f6ef061a2223b7b731e45fbff446", func := "hoistway/hoistwaylaw11.VaultTicks", spec := "vaultTicks", inPlace := ["slices.overlaps[hoistway/shelf.Pair[int, hoistway/api.Call]]"], unfollowed := true, recurses := true, apart := false, narrowed := true }
def VaultTicksUptoSaid : Prop := vaultTicksUptoRow.holds Try.pinned (OpenSpec.upto vaultTicksSpec)

end Rows
end Go.Proofs.Ytnanihffljpdbaa
