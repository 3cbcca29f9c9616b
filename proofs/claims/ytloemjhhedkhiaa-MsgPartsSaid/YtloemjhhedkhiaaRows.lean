/-
  No cell of these rows narrows 'for every input' (looked for: loops, veiled, ifaces, maps, wideKeys, modest, calm, conditions, laid).
  DERIVED. THE GIVEN ROWS OF THIS SEAT. 8 by the template 'for every input the law returns true; each argument reads behind the call as it read before'; 0 by the template 'total and deterministic' (their statements: YtloemjhhedkhiaaTotals.lean).
  GIVEN WITH THE SEED: the statements are not yours to turn. If you find one false, say at which input.
  Laid BY PROGRAM, IN A SANDBOX (cutbox-rows.mjs): the forced cells as the released guide's own fill.sh prints them over the translation a24b5522226e9d42… (all of the seat's roots in one cut). By AI agents, Wed Nov 11 2026. No macro, syntax, notation, axiom, sorry.
-/
import Derived.Test.YtloemjhhedkhiaaChecked
import GoSem.Claim
import GoSem.ClaimJoined
import GoSem.ClaimMapViews
import Derived.JoinedTies
import Derived.KernelRfl
namespace Go.Proofs.Ytloemjhhedkhiaa
/- THE CELL 'sum', in the pinned program and in every row, IS THE sha256 OF THE DUMP (.gsa) THAT YtloemjhhedkhiaaProg.lean LOADS. Nothing in Lean hashes anything: it is a label: what it is worth is what the hold of that sum in a sandbox is worth. -/
noncomputable def Try.pinned : Pinned := { name := "ytloemjhhedkhiaa", sum := "a24b5522226e9d4220563077e7546f9460576c39f310db667b7114ab1c49f17d", checked := Try.checked }
namespace Rows
def none {H : Type} : Left H := { results := [], args := [] }

/-- 'hoistwaylaw14.MsgExact': WHATEVER THE INPUT: true; the input reads as it did. -/
def msgExactSpec : ChangeSpec := { name := "msgExact", fn := fun _ => fun
  | [d1, d2] => { results := [.lit (.bool true)], args := [d1, d2] }
  | _ => none }
def msgExactRow : OpenClaim := { program := "ytloemjhhedkhiaa", sum := "a24b5522226e9d4220563077e7546f9460576c39f310db667b7114ab1c49f17d", func := "hoistway/hoistwaylaw14.MsgExact", spec := "msgExact", unfollowed := true, recurses := true, apart := false }
def MsgExactSaid : Prop := msgExactRow.holds Try.pinned (OpenSpec.ofChange msgExactSpec)

/-- ITS FALSE NEIGHBOUR: 'it returns false'. Refute it at one input. -/
def msgExactWrong : ChangeSpec := { name := "msgExact", fn := fun _ => fun
  | [d1, d2] => { results := [.lit (.bool false)], args := [d1, d2] }
  | _ => none }
def MsgExactWrongFalsely : Prop := msgExactRow.holds Try.pinned (OpenSpec.ofChange msgExactWrong)

/-- 'hoistwaylaw14.MsgBack': WHATEVER THE INPUT: true; the input reads as it did. -/
def msgBackSpec : ChangeSpec := { name := "msgBack", fn := fun _ => fun
  | [d1, d2, d3, d4] => { results := [.lit (.bool true)], args := [d1, d2, d3, d4] }
  | _ => none }
def msgBackRow : OpenClaim := { program := "ytloemjhhedkhiaa", sum := "a24b5522226e9d4220563077e7546f9460576c39f310db667b7114ab1c49f17d", func := "hoistway/hoistwaylaw14.MsgBack", spec := "msgBack", unfollowed := true, recurses := true, apart := false }
def MsgBackSaid : Prop := msgBackRow.holds Try.pinned (OpenSpec.ofChange msgBackSpec)

/-- ITS FALSE NEIGHBOUR: 'it returns false'. Refute it at one input. -/
def msgBackWrong : ChangeSpec := { name := "msgBack", fn := fun _ => fun
  | [d1, d2, d3, d4] => { results := [.lit (.bool false)], args := [d1, d2, d3, d4] }
  | _ => none }
def MsgBackWrongFalsely : Prop := msgBackRow.holds Try.pinned (OpenSpec.ofChange msgBackWrong)

/-- 'hoistwaylaw15.NoteNotices': WHATEVER THE INPUT: true; the input reads as it did. -/
def noteNoticesSpec : ChangeSpec := { name := "noteNotices", fn := fun _ => fun
  | [d1, d2] => { results := [.lit (.bool true)], args := [d1, d2] }
  | _ => none }
def noteNoticesRow : OpenClaim := { program := "ytloemjhhedkhiaa", sum := "a24b5522226e9d4220563077e7546f9460576c39f310db667b7114ab1c49f17d", func := "hoistway/hoistwaylaw15.NoteNotices", spec := "noteNotices", unfollowed := true, recurses := true, apart := false }
def NoteNoticesSaid : Prop := noteNoticesRow.holds Try.pinned (OpenSpec.ofChange noteNoticesSpec)

/-- ITS FALSE NEIGHBOUR: 'it returns false'. Refute it at one input. -/
def noteNoticesWrong : ChangeSpec := { name := "noteNotices", fn := fun _ => fun
  | [d1, d2] => { results := [.lit (.bool false)], args := [d1, d2] }
  | _ => none }
def NoteNoticesWrongFalsely : Prop := noteNoticesRow.holds Try.pinned (OpenSpec.ofChange noteNoticesWrong)

/-- 'hoistwaylaw14.MsgParts': WHATEVER THE INPUT: true; the input reads as it did. -/
def msgPartsSpec : ChangeSpec := { name := "msgParts", fn := fun _ => fun
  | [d1, d2, d3] => { results := [.lit (.bool true)], args := [d1, d2, d3] }
  | _ => none }
def msgPartsRow : OpenClaim := { program := "ytloemjhhedkhiaa", sum := "a24b5522226e9d4220563077e7546f9460576c39f310db667b7114ab1c49f17d", func := "hoistway/hoistwaylaw14.MsgParts", spec := "msgParts", unfollowed := true, recurses := true, apart := false }
def MsgPartsSaid : Prop := msgPartsRow.holds Try.pinned (OpenSpec.ofChange msgPartsSpec)

/-- ITS FALSE NEIGHBOUR: 'it returns false'. Refute it at one input. -/
def msgPartsWrong : ChangeSpec := { name := "msgParts", fn := fun _ => fun
  | [d1, d2, d3] => { results := [.lit (.bool false)], args := [d1, d2, d3] }
  | _ => none }
def MsgPartsWrongFalsely : Prop := msgPartsRow.holds Try.pinned (OpenSpec.ofChange msgPartsWrong)

/-- 'hoistwaylaw14.MsgAsks': WHATEVER THE INPUT: true; the input reads as it did. -/
def msgAsksSpec : ChangeSpec := { name := "msgAsks", fn := fun _ => fun
  | [d1, d2, d3, d4] => { results := [.lit (.bool true)], args := [d1, d2, d3, d4] }
  | _ => none }
def msgAsksRow : OpenClaim := { program := "ytloemjhhedkhiaa", sum := "a24b5522226e9d4220563077e7546f9460576c39f310db667b7114ab1c49f17d", func := "hoistway/hoistwaylaw14.MsgAsks", spec := "msgAsks", unfollowed := true, recurses := true, apart := false }
def MsgAsksSaid : Prop := msgAsksRow.holds Try.pinned (OpenSpec.ofChange msgAsksSpec)

/-- ITS FALSE NEIGHBOUR: 'it returns false'. Refute it at one input. -/
def msgAsksWrong : ChangeSpec := { name := "msgAsks", fn := fun _ => fun
  | [d1, d2, d3, d4] => { results := [.lit (.bool false)], args := [d1, d2, d3, d4] }
  | _ => none }
def MsgAsksWrongFalsely : Prop := msgAsksRow.holds Try.pinned (OpenSpec.ofChange msgAsksWrong)

/-- 'hoistwaylaw15.NoteAnswers': WHATEVER THE INPUT: true; the input reads as it did. -/
def noteAnswersSpec : ChangeSpec := { name := "noteAnswers", fn := fun _ => fun
  | [d1, d2, d3] => { results := [.lit (.bool true)], args := [d1, d2, d3] }
  | _ => none }
def noteAnswersRow : OpenClaim := { program := "ytloemjhhedkhiaa", sum := "a24b5522226e9d4220563077e7546f9460576c39f310db667b7114ab1c49f17d", func := "hoistway/hoistwaylaw15.NoteAnswers", spec := "noteAnswers", unfollowed := true, recurses := true, apart := false }
def NoteAnswersSaid : Prop := noteAnswersRow.holds Try.pinned (OpenSpec.ofChange noteAnswersSpec)

/-- ITS FALSE NEIGHBOUR: 'it returns false'. Refute it at one input. -/
def noteAnswersWrong : ChangeSpec := { name := "noteAnswers", fn := fun _ => fun
  | [d1, d2, d3] => { results := [.lit (.bool false)], args := [d1, d2, d3] }
  | _ => none }
def NoteAnswersWrongFalsely : Prop := noteAnswersRow.holds Try.pinned (OpenSpec.ofChange noteAnswersWrong)

/-- 'hoistwaylaw15.NoteBack': WHATEVER THE INPUT: true; the input reads as it did. -/
def noteBackSpec : ChangeSpec := { name := "noteBack", fn := fun _ => fun
  | [d1, d2, d3, d4] => { results := [.lit (.bool true)], args := [d1, d2, d3, d4] }
  | _ => none }
def noteBackRow : OpenClaim := { program := "ytloemjhhedkhiaa", sum := "a24b5522226e9d4220563077e7546f9460576c39f310db667b7114ab1c49f17d", func := "hoistway/hoistwaylaw15.NoteBack", spec := "noteBack", unfollowed := true, recurses := true, apart := false }
def NoteBackSaid : Prop := noteBackRow.holds Try.pinned (OpenSpec.ofChange noteBackSpec)

/-- ITS FALSE NEIGHBOUR: 'it returns false'. Refute it at one input. -/
def noteBackWrong : ChangeSpec := { name := "noteBack", fn := fun _ => fun
  | [d1, d2, d3, d4] => { results := [.lit (.bool false)], args := [d1, d2, d3, d4] }
  | _ => none }
def NoteBackWrongFalsely : Prop := noteBackRow.holds Try.pinned (OpenSpec.ofChange noteBackWrong)

/-- 'hoistwaylaw15.NoteSeqs': WHATEVER THE INPUT: true; the input reads as it did. -/
def noteSeqsSpec : ChangeSpec := { name := "noteSeqs", fn := fun _ => fun
  | [d1, d2, d3] => { results := [.lit (.bool true)], args := [d1, d2, d3] }
  | _ => none }
def noteSeqsRow : OpenClaim := { program := "ytloemjhhedkhiaa", sum := "a24b5522226e9d4220563077e7546f9460576c39f310db667b7114ab1c49f17d", func := "hoistway/hoistwaylaw15.NoteSeqs", spec := "noteSeqs", unfollowed := true, recurses := true, apart := false }
def NoteSeqsSaid : Prop := noteSeqsRow.holds Try.pinned (OpenSpec.ofChange noteSeqsSpec)

/-- ITS FALSE NEIGHBOUR: 'it returns false'. Refute it at one input. -/
def noteSeqsWrong : ChangeSpec := { name := "noteSeqs", fn := fun _ => fun
  | [d1, d2, d3] => { results := [.lit (.bool false)], args := [d1, d2, d3] }
  | _ => none }
def NoteSeqsWrongFalsely : Prop := noteSeqsRow.holds Try.pinned (OpenSpec.ofChange noteSeqsWrong)

/- THE SECOND FORM. 'bulk': how many values and letters a reading holds, each counted each time it is reached (what is shared counts as often as it is met; a slice's spare places count too). A statement '..UptoSaid' is the law's where the arguments, and the package variables that the reading takes, are together of bulk at most 1048576: NARROWER than '..Said'. Prove '..Said' where nothing that the law and all that it calls make is longer than what came in: it says more and counts as full. Else prove '..UptoSaid'. A law counts once. -/
mutual
def uptoBulk {H : Type} : DataW H → Nat
  | .lit (.string bytes) => bytes.length + 1
  | .lit _ => 1
  | .nil => 1
  | .ptr d => uptoBulk d + 1
  | .slice elems spare => uptoBulkAll elems + uptoBulkAll spare + 1
  | .agg parts => uptoBulkAll parts + 1
  | .iface _ d => uptoBulk d + 1
  | .map entries => uptoBulkEntries entries + 1
  | .held _ => 1
def uptoBulkAll {H : Type} : List (DataW H) → Nat
  | [] => 0
  | d :: r => uptoBulk d + uptoBulkAll r
def uptoBulkEntries {H : Type} : List (Lit × DataW H) → Nat
  | [] => 0
  | x :: r => uptoBulkEntry x + uptoBulkEntries r
def uptoBulkEntry {H : Type} : Lit × DataW H → Nat
  | (.string bytes, d) => bytes.length + uptoBulk d + 1
  | (_, d) => uptoBulk d + 1
 end
def uptoSmall : (H : Type) → List (DataW H) → Bool := fun _ ds => decide (uptoBulkAll ds ≤ 1048576)
def OpenSpec.upto (s : _root_.Go.ChangeSpec) : _root_.Go.OpenSpec := { _root_.Go.OpenSpec.ofChange s with cond := some uptoSmall }

/-- 'hoistwaylaw14.MsgExact', WHERE WHAT IT READS IS OF BULK AT MOST 1048576: true; the input reads as it did. -/
def msgExactUptoRow : OpenClaim := { program := "ytloemjhhedkhiaa", sum := "a24b5522226e9d4220563077e7546f9460576c39f310db667b7114ab1c49f17d", func := "hoistway/hoistwaylaw14.MsgExact", spec := "msgExact", unfollowed := true, recurses := true, apart := false, narrowed := true }
def MsgExactUptoSaid : Prop := msgExactUptoRow.holds Try.pinned (OpenSpec.upto msgExactSpec)

/-- 'hoistwaylaw14.MsgBack', WHERE WHAT IT READS IS OF BULK AT MOST 1048576: true; the input reads as it did. -/
def msgBackUptoRow : OpenClaim := { program := "ytloemjhhedkhiaa", sum := "a24b5522226e9d4220563077e7546f9460576c39f310db667b7114ab1c49f17d", func := "hoistway/hoistwaylaw14.MsgBack", spec := "msgBack", unfollowed := true, recurses := true, apart := false, narrowed := true }
def MsgBackUptoSaid : Prop := msgBackUptoRow.holds Try.pinned (OpenSpec.upto msgBackSpec)

/-- 'hoistwaylaw15.NoteNotices', WHERE WHAT IT READS IS OF BULK AT MOST 1048576: true; the input reads as it did. -/
def noteNoticesUptoRow : OpenClaim := { program := "ytloemjhhedkhiaa", sum := "a24b5522226e9d4220563077e7546f9460576c39f310db667b7114ab1c49f17d", func := "hoistway/hoistwaylaw15.NoteNotices", spec := "noteNotices", unfollowed := true, recurses := true, apart := false, narrowed := true }
def NoteNoticesUptoSaid : Prop := noteNoticesUptoRow.holds Try.pinned (OpenSpec.upto noteNoticesSpec)

/-- 'hoistwaylaw14.MsgParts', WHERE WHAT IT READS IS OF BULK AT MOST 1048576: true; the input reads as it did. -/
def msgPartsUptoRow : OpenClaim := { program := "ytloemjhhedkhiaa", sum := "a24b5522226e9d4220563077e7546f9460576c39f310db667b7114ab1c49f17d", func := "hoistway/hoistwaylaw14.MsgParts", spec := "msgParts", unfollowed := true, recurses := true, apart := false, narrowed := true }
def MsgPartsUptoSaid : Prop := msgPartsUptoRow.holds Try.pinned (OpenSpec.upto msgPartsSpec)

/-- 'hoistwaylaw14.MsgAsks', WHERE WHAT IT READS IS OF BULK AT MOST 1048576: true; the input reads as it did. -/
def msgAsksUptoRow : OpenClaim := { program := "ytloemjhhedkhiaa", sum := "a24b5522226e9d4220563077e7546f9460576c39f310db667b7114ab1c49f17d", func := "hoistway/hoistwaylaw14.MsgAsks", spec := "msgAsks", unfollowed := true, recurses := true, apart := false, narrowed := true }
def MsgAsksUptoSaid : Prop := msgAsksUptoRow.holds Try.pinned (OpenSpec.upto msgAsksSpec)

/-- 'hoistwaylaw15.NoteAnswers', WHERE WHAT IT READS IS OF BULK AT MOST 1048576: true; the input reads as it did. -/
def noteAnswersUptoRow : OpenClaim := { program := "ytloemjhhedkhiaa", sum := "a24b5522226e9d4220563077e7546f9460576c39f310db667b7114ab1c49f17d", func := "hoistway/hoistwaylaw15.NoteAnswers", spec := "noteAnswers", unfollowed := true, recurses := true, apart := false, narrowed := true }
def NoteAnswersUptoSaid : Prop := noteAnswersUptoRow.holds Try.pinned (OpenSpec.upto noteAnswersSpec)

/-- 'hoistwaylaw15.NoteBack', WHERE WHAT IT READS IS OF BULK AT MOST 1048576: true; the input reads as it did. -/
def noteBackUptoRow : OpenClaim := { program := "ytloemjhhedkhiaa", sum := "a24b5522226e9d4220563077e7546f9460576c39f310db667b7114ab1c49f17d", func := "hoistway/hoistwaylaw15.NoteBack", spec := "noteBack", unfollowed := true, recurses := true, apart := false, narrowed := true }
def NoteBackUptoSaid : Prop := noteBackUptoRow.holds Try.pinned (OpenSpec.upto noteBackSpec)

/-- 'hoistwaylaw15.NoteSeqs', WHERE WHAT IT READS IS OF BULK AT MOST 1048576: true; the input reads as it did. -/
def noteSeqsUptoRow : OpenClaim := { program := "ytloemjhhedkhiaa", sum := "a24b5522226e9d4220563077e7546f9460576c39f310db667b7114ab1c49f17d", func := "hoistway/hoistwaylaw15.NoteSeqs", spec := "noteSeqs", unfollowed := true, recurses := true, apart := false, narrowed := true }
def NoteSeqsUptoSaid : Prop := noteSeqsUptoRow.holds Try.pinned (OpenSpec.upto noteSeqsSpec)

end Rows
end Go.Proofs.Ytloemjhhedkhiaa
