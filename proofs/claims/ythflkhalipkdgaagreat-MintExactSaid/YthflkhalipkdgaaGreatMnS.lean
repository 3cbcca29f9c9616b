/- Layer 35: fewer events are the beginning of more (plain law, by hand). -/
import Derived.Test.YthflkhalipkdgaaGreatMn8
namespace Go.Proofs.YthflkhalipkdgaaGreat.Mn
set_option maxRecDepth 20000
open Go.RowKit Go.Proofs.YthflkhalipkdgaaGreat.Si Go.Proofs.YthflkhalipkdgaaGreat.Ca Go.Proofs.YthflkhalipkdgaaGreat.Ms
set_option linter.unusedVariables false
set_option linter.unusedSimpArgs false
end Go.Proofs.YthflkhalipkdgaaGreat.Mn
