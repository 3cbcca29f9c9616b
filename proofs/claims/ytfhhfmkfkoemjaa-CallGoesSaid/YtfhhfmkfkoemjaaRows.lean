/-
  No cell of these rows narrows 'for every input' (looked for: loops, veiled, ifaces, maps, wideKeys, modest, calm, conditions, laid).
  DERIVED. THE GIVEN ROWS OF THIS SEAT. 10 by the template 'for every input the law returns true; each argument reads behind the call as it read before'; 0 by the template 'total and deterministic' (their statements: YtfhhfmkfkoemjaaTotals.lean).
  GIVEN WITH THE SEED: the statements are not yours to turn. If you find one false, say at which input.
  Laid BY PROGRAM, IN A SANDBOX (cutbox-rows.mjs): the forced cells as the released guide's own fill.sh prints them over the translation 5427c5001dd1ae6f… (all of the seat's roots in one cut). By AI agents, Wed Nov 11 2026. No macro, syntax, notation, axiom, sorry.
-/
import Derived.Test.YtfhhfmkfkoemjaaChecked
import GoSem.Claim
import GoSem.ClaimJoined
import GoSem.ClaimMapViews
import Derived.JoinedTies
import Derived.KernelRfl
namespace Go.Proofs.Ytfhhfmkfkoemjaa
/- THE CELL 'sum', in the pinned program and in every row, IS THE sha256 OF THE DUMP (.gsa) THAT YtfhhfmkfkoemjaaProg.lean LOADS. Nothing in Lean hashes anything: it is a label: what it is worth is what the hold of that sum in a sandbox is worth. -/
noncomputable def Try.pinned : Pinned := { name := "ytfhhfmkfkoemjaa", sum := "5427c5001dd1ae6f78a3c028bf63a44f88c981411f2fd9734731731144893046", checked := Try.checked }
namespace Rows
def none {H : Type} : Left H := { results := [], args := [] }

/-- 'hoistwaylaw08.CallGoes': WHATEVER THE INPUT: true; the input reads as it did. -/
def callGoesSpec : ChangeSpec := { name := "callGoes", fn := fun _ => fun
  | [d1, d2, d3] => { results := [.lit (.bool true)], args := [d1, d2, d3] }
  | _ => none }
def callGoesRow : OpenClaim := { program := "ytfhhfmkfkoemjaa", sum := "5427c5001dd1ae6f78a3c028bf63a44f88c981411f2fd9734731731144893046", func := "hoistway/hoistwaylaw08.CallGoes", spec := "callGoes", unfollowed := true, recurses := true, apart := false }
def CallGoesSaid : Prop := callGoesRow.holds Try.pinned (OpenSpec.ofChange callGoesSpec)

/-- ITS FALSE NEIGHBOUR: 'it returns false'. Refute it at one input. -/
def callGoesWrong : ChangeSpec := { name := "callGoes", fn := fun _ => fun
  | [d1, d2, d3] => { results := [.lit (.bool false)], args := [d1, d2, d3] }
  | _ => none }
def CallGoesWrongFalsely : Prop := callGoesRow.holds Try.pinned (OpenSpec.ofChange callGoesWrong)

/-- 'hoistwaylaw08.CallComesBack': WHATEVER THE INPUT: true; the input reads as it did. -/
def callComesBackSpec : ChangeSpec := { name := "callComesBack", fn := fun _ => fun
  | [d1, d2, d3, d4] => { results := [.lit (.bool true)], args := [d1, d2, d3, d4] }
  | _ => none }
def callComesBackRow : OpenClaim := { program := "ytfhhfmkfkoemjaa", sum := "5427c5001dd1ae6f78a3c028bf63a44f88c981411f2fd9734731731144893046", func := "hoistway/hoistwaylaw08.CallComesBack", spec := "callComesBack", unfollowed := true, recurses := true, apart := false }
def CallComesBackSaid : Prop := callComesBackRow.holds Try.pinned (OpenSpec.ofChange callComesBackSpec)

/-- ITS FALSE NEIGHBOUR: 'it returns false'. Refute it at one input. -/
def callComesBackWrong : ChangeSpec := { name := "callComesBack", fn := fun _ => fun
  | [d1, d2, d3, d4] => { results := [.lit (.bool false)], args := [d1, d2, d3, d4] }
  | _ => none }
def CallComesBackWrongFalsely : Prop := callComesBackRow.holds Try.pinned (OpenSpec.ofChange callComesBackWrong)

/-- 'hoistwaylaw06.ShelfOrder': WHATEVER THE INPUT: true; the input reads as it did. -/
def shelfOrderSpec : ChangeSpec := { name := "shelfOrder", fn := fun _ => fun
  | [d1, d2] => { results := [.lit (.bool true)], args := [d1, d2] }
  | _ => none }
def shelfOrderRow : OpenClaim := { program := "ytfhhfmkfkoemjaa", sum := "5427c5001dd1ae6f78a3c028bf63a44f88c981411f2fd9734731731144893046", func := "hoistway/hoistwaylaw06.ShelfOrder", spec := "shelfOrder", inPlace := ["slices.overlaps[hoistway/shelf.Pair[string, int]]"], unfollowed := true, recurses := true, apart := false }
def ShelfOrderSaid : Prop := shelfOrderRow.holds Try.pinned (OpenSpec.ofChange shelfOrderSpec)

/-- ITS FALSE NEIGHBOUR: 'it returns false'. Refute it at one input. -/
def shelfOrderWrong : ChangeSpec := { name := "shelfOrder", fn := fun _ => fun
  | [d1, d2] => { results := [.lit (.bool false)], args := [d1, d2] }
  | _ => none }
def ShelfOrderWrongFalsely : Prop := shelfOrderRow.holds Try.pinned (OpenSpec.ofChange shelfOrderWrong)

/-- 'hoistwaylaw06.ShelfStays': WHATEVER THE INPUT: true; the input reads as it did. -/
def shelfStaysSpec : ChangeSpec := { name := "shelfStays", fn := fun _ => fun
  | [d1, d2, d3, d4] => { results := [.lit (.bool true)], args := [d1, d2, d3, d4] }
  | _ => none }
def shelfStaysRow : OpenClaim := { program := "ytfhhfmkfkoemjaa", sum := "5427c5001dd1ae6f78a3c028bf63a44f88c981411f2fd9734731731144893046", func := "hoistway/hoistwaylaw06.ShelfStays", spec := "shelfStays", inPlace := ["slices.overlaps[hoistway/shelf.Pair[string, int]]"], unfollowed := true, recurses := true, apart := false }
def ShelfStaysSaid : Prop := shelfStaysRow.holds Try.pinned (OpenSpec.ofChange shelfStaysSpec)

/-- ITS FALSE NEIGHBOUR: 'it returns false'. Refute it at one input. -/
def shelfStaysWrong : ChangeSpec := { name := "shelfStays", fn := fun _ => fun
  | [d1, d2, d3, d4] => { results := [.lit (.bool false)], args := [d1, d2, d3, d4] }
  | _ => none }
def ShelfStaysWrongFalsely : Prop := shelfStaysRow.holds Try.pinned (OpenSpec.ofChange shelfStaysWrong)

/-- 'hoistwaylaw06.ShelfParts': WHATEVER THE INPUT: true; the input reads as it did. -/
def shelfPartsSpec : ChangeSpec := { name := "shelfParts", fn := fun _ => fun
  | [d1, d2, d3, d4, d5] => { results := [.lit (.bool true)], args := [d1, d2, d3, d4, d5] }
  | _ => none }
def shelfPartsRow : OpenClaim := { program := "ytfhhfmkfkoemjaa", sum := "5427c5001dd1ae6f78a3c028bf63a44f88c981411f2fd9734731731144893046", func := "hoistway/hoistwaylaw06.ShelfParts", spec := "shelfParts", inPlace := ["slices.overlaps[hoistway/shelf.Pair[string, int]]"], unfollowed := true, recurses := true, apart := false }
def ShelfPartsSaid : Prop := shelfPartsRow.holds Try.pinned (OpenSpec.ofChange shelfPartsSpec)

/-- ITS FALSE NEIGHBOUR: 'it returns false'. Refute it at one input. -/
def shelfPartsWrong : ChangeSpec := { name := "shelfParts", fn := fun _ => fun
  | [d1, d2, d3, d4, d5] => { results := [.lit (.bool false)], args := [d1, d2, d3, d4, d5] }
  | _ => none }
def ShelfPartsWrongFalsely : Prop := shelfPartsRow.holds Try.pinned (OpenSpec.ofChange shelfPartsWrong)

/-- 'hoistwaylaw06.ShelfExact': WHATEVER THE INPUT: true; the input reads as it did. -/
def shelfExactSpec : ChangeSpec := { name := "shelfExact", fn := fun _ => fun
  | [d1, d2] => { results := [.lit (.bool true)], args := [d1, d2] }
  | _ => none }
def shelfExactRow : OpenClaim := { program := "ytfhhfmkfkoemjaa", sum := "5427c5001dd1ae6f78a3c028bf63a44f88c981411f2fd9734731731144893046", func := "hoistway/hoistwaylaw06.ShelfExact", spec := "shelfExact", inPlace := ["slices.overlaps[hoistway/shelf.Pair[string, int]]"], unfollowed := true, recurses := true, apart := false }
def ShelfExactSaid : Prop := shelfExactRow.holds Try.pinned (OpenSpec.ofChange shelfExactSpec)

/-- ITS FALSE NEIGHBOUR: 'it returns false'. Refute it at one input. -/
def shelfExactWrong : ChangeSpec := { name := "shelfExact", fn := fun _ => fun
  | [d1, d2] => { results := [.lit (.bool false)], args := [d1, d2] }
  | _ => none }
def ShelfExactWrongFalsely : Prop := shelfExactRow.holds Try.pinned (OpenSpec.ofChange shelfExactWrong)

/-- 'hoistwaylaw10.KeysMade': WHATEVER THE INPUT: true; the input reads as it did. -/
def keysMadeSpec : ChangeSpec := { name := "keysMade", fn := fun _ => fun
  | [d1, d2] => { results := [.lit (.bool true)], args := [d1, d2] }
  | _ => none }
def keysMadeRow : OpenClaim := { program := "ytfhhfmkfkoemjaa", sum := "5427c5001dd1ae6f78a3c028bf63a44f88c981411f2fd9734731731144893046", func := "hoistway/hoistwaylaw10.KeysMade", spec := "keysMade", inPlace := ["slices.overlaps[hoistway/shelf.Pair[string, hoistway/keys.entry]]"], unfollowed := true, recurses := true, apart := false }
def KeysMadeSaid : Prop := keysMadeRow.holds Try.pinned (OpenSpec.ofChange keysMadeSpec)

/-- ITS FALSE NEIGHBOUR: 'it returns false'. Refute it at one input. -/
def keysMadeWrong : ChangeSpec := { name := "keysMade", fn := fun _ => fun
  | [d1, d2] => { results := [.lit (.bool false)], args := [d1, d2] }
  | _ => none }
def KeysMadeWrongFalsely : Prop := keysMadeRow.holds Try.pinned (OpenSpec.ofChange keysMadeWrong)

/-- 'hoistwaylaw10.KeysOnce': WHATEVER THE INPUT: true; the input reads as it did. -/
def keysOnceSpec : ChangeSpec := { name := "keysOnce", fn := fun _ => fun
  | [d1, d2] => { results := [.lit (.bool true)], args := [d1, d2] }
  | _ => none }
def keysOnceRow : OpenClaim := { program := "ytfhhfmkfkoemjaa", sum := "5427c5001dd1ae6f78a3c028bf63a44f88c981411f2fd9734731731144893046", func := "hoistway/hoistwaylaw10.KeysOnce", spec := "keysOnce", inPlace := ["slices.overlaps[hoistway/shelf.Pair[string, hoistway/keys.entry]]"], unfollowed := true, recurses := true, apart := false }
def KeysOnceSaid : Prop := keysOnceRow.holds Try.pinned (OpenSpec.ofChange keysOnceSpec)

/-- ITS FALSE NEIGHBOUR: 'it returns false'. Refute it at one input. -/
def keysOnceWrong : ChangeSpec := { name := "keysOnce", fn := fun _ => fun
  | [d1, d2] => { results := [.lit (.bool false)], args := [d1, d2] }
  | _ => none }
def KeysOnceWrongFalsely : Prop := keysOnceRow.holds Try.pinned (OpenSpec.ofChange keysOnceWrong)

/-- 'hoistwaylaw10.KeysApart': WHATEVER THE INPUT: true; the input reads as it did. -/
def keysApartSpec : ChangeSpec := { name := "keysApart", fn := fun _ => fun
  | [d1, d2, d3, d4] => { results := [.lit (.bool true)], args := [d1, d2, d3, d4] }
  | _ => none }
def keysApartRow : OpenClaim := { program := "ytfhhfmkfkoemjaa", sum := "5427c5001dd1ae6f78a3c028bf63a44f88c981411f2fd9734731731144893046", func := "hoistway/hoistwaylaw10.KeysApart", spec := "keysApart", inPlace := ["slices.overlaps[hoistway/shelf.Pair[string, hoistway/keys.entry]]"], unfollowed := true, recurses := true, apart := false }
def KeysApartSaid : Prop := keysApartRow.holds Try.pinned (OpenSpec.ofChange keysApartSpec)

/-- ITS FALSE NEIGHBOUR: 'it returns false'. Refute it at one input. -/
def keysApartWrong : ChangeSpec := { name := "keysApart", fn := fun _ => fun
  | [d1, d2, d3, d4] => { results := [.lit (.bool false)], args := [d1, d2, d3, d4] }
  | _ => none }
def KeysApartWrongFalsely : Prop := keysApartRow.holds Try.pinned (OpenSpec.ofChange keysApartWrong)

/-- 'hoistwaylaw10.KeysExact': WHATEVER THE INPUT: true; the input reads as it did. -/
def keysExactSpec : ChangeSpec := { name := "keysExact", fn := fun _ => fun
  | [d1, d2, d3] => { results := [.lit (.bool true)], args := [d1, d2, d3] }
  | _ => none }
def keysExactRow : OpenClaim := { program := "ytfhhfmkfkoemjaa", sum := "5427c5001dd1ae6f78a3c028bf63a44f88c981411f2fd9734731731144893046", func := "hoistway/hoistwaylaw10.KeysExact", spec := "keysExact", inPlace := ["slices.overlaps[hoistway/shelf.Pair[string, hoistway/keys.entry]]"], unfollowed := true, recurses := true, apart := false }
def KeysExactSaid : Prop := keysExactRow.holds Try.pinned (OpenSpec.ofChange keysExactSpec)

/-- ITS FALSE NEIGHBOUR: 'it returns false'. Refute it at one input. -/
def keysExactWrong : ChangeSpec := { name := "keysExact", fn := fun _ => fun
  | [d1, d2, d3] => { results := [.lit (.bool false)], args := [d1, d2, d3] }
  | _ => none }
def KeysExactWrongFalsely : Prop := keysExactRow.holds Try.pinned (OpenSpec.ofChange keysExactWrong)

/- THE SECOND FORM. 'bulk': how many values and letters a reading holds, each counted each time it is reached (what is shared counts as often as it is met; a slice's spare places count too). A statement '..UptoSaid' is the law's where the arguments, and the package variables that the reading takes, are together of bulk at most 1048576: NARROWER than '..Said'. Prove '..Said' where nothing that the law and all that it calls make is longer than what came in: it says more and counts as full. Else prove '..UptoSaid'. A law counts once. -/
mutual
def uptoBulk {H : Type} : DataW H → Nat
  | .lit (.string bytes) => bytes.length + 1
  | .lit _ => 1
  | .nil => 1
  | .ptr d => uptoBulk d + 1
  | .slice elems spare => uptoBulkAll elems + uptoBulkAll spare + 1
  | .agg parts => uptoBulkAll parts + 1
  | .iface _ d => uptoBulk d + 1
  | .map entries => uptoBulkEntries entries + 1
  | .held _ => 1
def uptoBulkAll {H : Type} : List (DataW H) → Nat
  | [] => 0
  | d :: r => uptoBulk d + uptoBulkAll r
def uptoBulkEntries {H : Type} : List (Lit × DataW H) → Nat
  | [] => 0
  | x :: r => uptoBulkEntry x + uptoBulkEntries r
def uptoBulkEntry {H : Type} : Lit × DataW H → Nat
  | (.string bytes, d) => bytes.length + uptoBulk d + 1
  | (_, d) => uptoBulk d + 1
 end
def uptoSmall : (H : Type) → List (DataW H) → Bool := fun _ ds => decide (uptoBulkAll ds ≤ 1048576)
def OpenSpec.upto (s : _root_.Go.ChangeSpec) : _root_.Go.OpenSpec := { _root_.Go.OpenSpec.ofChange s with cond := some uptoSmall }

/-- 'hoistwaylaw08.CallGoes', WHERE WHAT IT READS IS OF BULK AT MOST 1048576: true; the input reads as it did. -/
def callGoesUptoRow : OpenClaim := { program := "ytfhhfmkfkoemjaa", sum := "5427c5001dd1ae6f78a3c028bf63a44f88c981411f2fd9734731731144893046", func := "hoistway/hoistwaylaw08.CallGoes", spec := "callGoes", unfollowed := true, recurses := true, apart := false, narrowed := true }
def CallGoesUptoSaid : Prop := callGoesUptoRow.holds Try.pinned (OpenSpec.upto callGoesSpec)

/-- 'hoistwaylaw08.CallComesBack', WHERE WHAT IT READS IS OF BULK AT MOST 1048576: true; the input reads as it did. -/
def callComesBackUptoRow : OpenClaim := { program := "ytfhhfmkfkoemjaa", sum := "5427c5001dd1ae6f78a3c028bf63a44f88c981411f2fd9734731731144893046", func := "hoistway/hoistwaylaw08.CallComesBack", spec := "callComesBack", unfollowed := true, recurses := true, apart := false, narrowed := true }
def CallComesBackUptoSaid : Prop := callComesBackUptoRow.holds Try.pinned (OpenSpec.upto callComesBackSpec)

/-- 'hoistwaylaw06.ShelfOrder', WHERE WHAT IT READS IS OF BULK AT MOST 1048576: true; the input reads as it did. -/
def shelfOrderUptoRow : OpenClaim := { program := "ytfhhfmkfkoemjaa", sum := "5427c5001dd1ae6f78a3c028bf63a44f88c981411f2fd9734731731144893046", func := "hoistway/hoistwaylaw06.ShelfOrder", spec := "shelfOrder", inPlace := ["slices.overlaps[hoistway/shelf.Pair[string, int]]"], unfollowed := true, recurses := true, apart := false, narrowed := true }
def ShelfOrderUptoSaid : Prop := shelfOrderUptoRow.holds Try.pinned (OpenSpec.upto shelfOrderSpec)

/-- 'hoistwaylaw06.ShelfStays', WHERE WHAT IT READS IS OF BULK AT MOST 1048576: true; the input reads as it did. -/
def shelfStaysUptoRow : OpenClaim := { program := "ytfhhfmkfkoemjaa", sum := "5427c5001dd1ae6f78a3c028bf63a44f88c981411f2fd9734731731144893046", func := "hoistway/hoistwaylaw06.ShelfStays", spec := "shelfStays", inPlace := ["slices.overlaps[hoistway/shelf.Pair[string, int]]"], unfollowed := true, recurses := true, apart := false, narrowed := true }
def ShelfStaysUptoSaid : Prop := shelfStaysUptoRow.holds Try.pinned (OpenSpec.upto shelfStaysSpec)

/-- 'hoistwaylaw06.ShelfParts', WHERE WHAT IT READS IS OF BULK AT MOST 1048576: true; the input reads as it did. -/
def shelfPartsUptoRow : OpenClaim := { program := "ytfhhfmkfkoemjaa", sum := "5427c5001dd1ae6f78a3c028bf63a44f88c981411f2fd9734731731144893046", func := "hoistway/hoistwaylaw06.ShelfParts", spec := "shelfParts", inPlace := ["slices.overlaps[hoistway/shelf.Pair[string, int]]"], unfollowed := true, recurses := true, apart := false, narrowed := true }
def ShelfPartsUptoSaid : Prop := shelfPartsUptoRow.holds Try.pinned (OpenSpec.upto shelfPartsSpec)

/-- 'hoistwaylaw06.ShelfExact', WHERE WHAT IT READS IS OF BULK AT MOST 1048576: true; the input reads as it did. -/
def shelfExactUptoRow : OpenClaim := { program := "ytfhhfmkfkoemjaa", sum := "5427c5001dd1ae6f78a3c028bf63a44f88c981411f2fd9734731731144893046", func := "hoistway/hoistwaylaw06.ShelfExact", spec := "shelfExact", inPlace := ["slices.overlaps[hoistway/shelf.Pair[string, int]]"], unfollowed := true, recurses := true, apart := false, narrowed := true }
def ShelfExactUptoSaid : Prop := shelfExactUptoRow.holds Try.pinned (OpenSpec.upto shelfExactSpec)

/-- 'hoistwaylaw10.KeysMade', WHERE WHAT IT READS IS OF BULK AT MOST 1048576: true; the input reads as it did. -/
def keysMadeUptoRow : OpenClaim := { program := "ytfhhfmkfkoemjaa", sum := "5427c5001dd1ae6f78a3c028bf63a44f88c981411f2fd9734731731144893046", func := "hoistway/hoistwaylaw10.KeysMade", spec := "keysMade", inPlace := ["slices.overlaps[hoistway/shelf.Pair[string, hoistway/keys.entry]]"], unfollowed := true, recurses := true, apart := false, narrowed := true }
def KeysMadeUptoSaid : Prop := keysMadeUptoRow.holds Try.pinned (OpenSpec.upto keysMadeSpec)

/-- 'hoistwaylaw10.KeysOnce', WHERE WHAT IT READS IS OF BULK AT MOST 1048576: true; the input reads as it did. -/
def keysOnceUptoRow : OpenClaim := { program := "ytfhhfmkfkoemjaa", sum := "5427c5001dd1ae6f78a3c028bf63a44f88c981411f2fd9734731731144893046", func := "hoistway/hoistwaylaw10.KeysOnce", spec := "keysOnce", inPlace := ["slices.overlaps[hoistway/shelf.Pair[string, hoistway/keys.entry]]"], unfollowed := true, recurses := true, apart := false, narrowed := true }
def KeysOnceUptoSaid : Prop := keysOnceUptoRow.holds Try.pinned (OpenSpec.upto keysOnceSpec)

/-- 'hoistwaylaw10.KeysApart', WHERE WHAT IT READS IS OF BULK AT MOST 1048576: true; the input reads as it did. -/
def keysApartUptoRow : OpenClaim := { program := "ytfhhfmkfkoemjaa", sum := "5427c5001dd1ae6f78a3c028bf63a44f88c981411f2fd9734731731144893046", func := "hoistway/hoistwaylaw10.KeysApart", spec := "keysApart", inPlace := ["slices.overlaps[hoistway/shelf.Pair[string, hoistway/keys.entry]]"], unfollowed := true, recurses := true, apart := false, narrowed := true }
def KeysApartUptoSaid : Prop := keysApartUptoRow.holds Try.pinned (OpenSpec.upto keysApartSpec)

/-- 'hoistwaylaw10.KeysExact', WHERE WHAT IT READS IS OF BULK AT MOST 1048576: true; the input reads as it did. -/
def keysExactUptoRow : OpenClaim := { program := "ytfhhfmkfkoemjaa", sum := "5427c5001dd1ae6f78a3c028bf63a44f88c981411f2fd9734731731144893046", func := "hoistway/hoistwaylaw10.KeysExact", spec := "keysExact", inPlace := ["slices.overlaps[hoistway/shelf.Pair[string, hoistway/keys.entry]]"], unfollowed := true, recurses := true, apart := false, narrowed := true }
def KeysExactUptoSaid : Prop := keysExactUptoRow.holds Try.pinned (OpenSpec.upto keysExactSpec)

end Rows
end Go.Proofs.Ytfhhfmkfkoemjaa
