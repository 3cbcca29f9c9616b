/- A region that draws, in whatever order, with the memory as one hypothesis: each operation is walked once; what is known of its value is told ahead. -/
import Derived.Test.YtfhhfmkfkoemjaaProg
import Derived.Below
import Derived.WalkKit
import Derived.KernelRfl
import Derived.RowKit3
import Derived.Deep.LoopGhost
import Derived.Deep.QuietTactic
import Derived.BigQuiet
import Derived.WideLaws
import Derived.Deep.DeepCutAuto
import Derived.Deep.CutBlock
import Derived.Lib.Hide
import Derived.Laws.BitsLemmas
import Derived.Laws.Bits64
import Derived.Laws.BitsAllLaws
import Derived.IntWalk
import Derived.Outline
import Derived.WalkSpells
import Derived.Test.YtfhhfmkfkoemjaaMem
import Derived.Test.YtfhhfmkfkoemjaaHpW
namespace Go.Proofs.Ytfhhfmkfkoemjaa.Mem
open Go.RowKit
section
variable {P : Program} {ops : Array Oper} {Q : Exit → Act → World → Prop} {S : List Nat} {w0 w : World} {R : List Res}
theorem hp_walksF {id : Nat} {a0 : Act} (H : Hid (Hp S w0 w R)) (F : Nat → Value → World → Prop) (hF : ∀ j v w w', F j v w → Off [] w w' → F j v w') (hm : P.follows .mixedOrders = true) (hb : Inv.backward ops) (hdd : Inv.distinctDst ops = true) (N : Nat) (hN : a0.tmps.size = N) (hnd : (ops.all fun o => o.dst.isSome) = true) (hsz : (ops.all fun o => match o.dst with | some d => decide (d < N) | none => true) = true)
    (step : ∀ i o, ops[i]? = some o → ∀ a' w', Inv.Fr ops a0 a' → Hid (Hp S w0 w' R) → (∀ e ∈ o.after, Region.binds .any e = true → F e.on (Inv.slotv ops a' e.on) w') → Region.wanted o (yielded ops a'.tmps) = true → ∀ Q' : Exit → Act → World → Prop, (∀ v w'', Off [] w' w'' → Hid (Hp S w0 w'' R) → F i v w'' → Q' .normal (a'.put o.dst v) w'') → wpList P ops Q' [o] a' w')
    (skip : ∀ i o, ops[i]? = some o → ∀ a' w', (∀ e ∈ o.after, Region.binds .any e = true → F e.on (Inv.slotv ops a' e.on) w') → Region.wanted o (yielded ops a'.tmps) = false → F i undef w')
    (fin : ∀ vs w', Hid (Hp S w0 w' R) → (∀ j, j < ops.size → F j (vs j) w') → Q .normal (Inv.putAll a0 ops vs ops.size) w') : (Code.region id ops true).wp P Q a0 w := by
  refine Inv.wp_region_walks hm hb hdd N hN hnd hsz (Off []) (Off.refl []) (fun w' => Hp S w0 w' R) F (fun j v w w' _ ho h => hF j v w w' h ho) (fun _ _ h ho => h.quiet ho) H.out.drew (fun i o ho a' w' hfr hW hdep hwant Q' hQ => ?_) (fun i o ho a' w' _ _ hdep hwant => skip i o ho a' w' hdep hwant) (fun vs w' hW hF' => fin vs w' (Lib.hid hW) hF')
  exact step i o ho a' w' hfr (Lib.hid hW) hdep hwant Q' (fun v w'' h1 h2 h3 => hQ v w'' h1 h3)
end
end Go.Proofs.Ytfhhfmkfkoemjaa.Mem
