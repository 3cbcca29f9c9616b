/- A region that draws, in whatever order, with the memory as one hypothesis: each operation is walked once; its value is told ahead. -/
import Derived.Test.YthflkhalipkdgaaProg
import Derived.Below
import Derived.WalkKit
import Derived.KernelRfl
import Derived.RowKit3
import Derived.Deep.LoopGhost
import Derived.Deep.QuietTactic
import Derived.BigQuiet
import Derived.WideLaws
import Derived.Deep.DeepCutAuto
import Derived.Deep.CutBlock
import Derived.Lib.Hide
import Derived.Laws.BitsLemmas
import Derived.Laws.Bits64
import Derived.Laws.BitsAllLaws
import Derived.IntWalk
import Derived.Outline
import Derived.WalkSpells
import Derived.Test.YthflkhalipkdgaaMem
import Derived.Test.YthflkhalipkdgaaInv3
import Derived.Test.YthflkhalipkdgaaHp2
namespace Go.Proofs.Ythflkhalipkdgaa.Mem
set_option maxRecDepth 20000
set_option linter.unusedVariables false
set_option linter.unusedSimpArgs false
open Go.RowKit

theorem got_bool {xs : Array Value} {t : Nat} {b : Bool} (h : (xs[t]?).getD undef = .bool b) : xs[t]? = some (.bool b) := by
  cases hx : xs[t]? with
  | none =>
    rw [hx] at h
    exact absurd h (by simp [undef])
  | some v =>
    rw [hx] at h
    rw [show v = .bool b from h]
theorem skip_none {o : Oper} {y : Nat → Option Bool} (h : Region.wanted o y = false) (hg : o.guard = none) : False := by
  simp [Region.wanted, hg] at h
theorem yield_of {ops : Array Oper} {tmps : Array Value} {j d : Nat} {b : Bool} (hd : Inv.dstAt ops j = some d) (he : tmps.getD d undef = .bool b) : yielded ops tmps j = some b := by
  unfold Inv.dstAt at hd
  rw [Array.getD_eq_getD_getElem?] at he
  unfold yielded
  rw [hd]
  simp only [Option.bind_some, got_bool he]
theorem skip_want {o : Oper} {ops : Array Oper} {tmps : Array Value} {j d : Nat} {b : Bool} (h : Region.wanted o (yielded ops tmps) = false) (hg : o.guard = some (j, b)) (hd : Inv.dstAt ops j = some d) (he : tmps.getD d undef = .bool b) : False := by
  rw [Region.wanted, hg] at h
  simp only [yield_of hd he] at h
  simp at h
theorem keep_bad {o : Oper} {ops : Array Oper} {tmps : Array Value} {j d : Nat} {b : Bool} (h : Region.wanted o (yielded ops tmps) = true) (hg : o.guard = some (j, !b)) (hd : Inv.dstAt ops j = some d) (he : tmps.getD d undef = .bool b) : False := by
  rw [Region.wanted, hg] at h
  simp only [yield_of hd he] at h
  cases b <;> simp at h
section
variable {P : Program} {ops : Array Oper} {Q : Exit → Act → World → Prop} {S : List Nat} {w0 w : World} {R : List Res}
theorem putAll_same (a0 : Act) (ops : Array Oper) (vs us : Nat → Value) : ∀ k, (∀ j, j < k → vs j = us j) → Inv.putAll a0 ops vs k = Inv.putAll a0 ops us k
  | 0, _ => rfl
  | k + 1, h => by rw [Inv.putAll, Inv.putAll, putAll_same a0 ops vs us k (fun j hj => h j (by omega)), h k (by omega)]
theorem hp_walks {id : Nat} {a0 : Act} (H : Hid (Hp S w0 w R)) (vals : Nat → Value) (hm : P.follows .mixedOrders = true) (hb : Inv.backward ops) (hdd : Inv.distinctDst ops = true) (N : Nat) (hN : a0.tmps.size = N) (hnd : (ops.all fun o => o.dst.isSome) = true) (hsz : (ops.all fun o => match o.dst with | some d => decide (d < N) | none => true) = true)
    (step : ∀ i o, ops[i]? = some o → ∀ a' w', Inv.Fr ops a0 a' → Hid (Hp S w0 w' R) → (∀ e ∈ o.after, Region.binds .any e = true → Inv.slotv ops a' e.on = vals e.on) → Region.wanted o (yielded ops a'.tmps) = true → ∀ Q' : Exit → Act → World → Prop, (∀ w'', Hid (Hp S w0 w'' R) → Q' .normal (a'.put o.dst (vals i)) w'') → wpList P ops Q' [o] a' w')
    (skip : ∀ i o, ops[i]? = some o → ∀ a', (∀ e ∈ o.after, Region.binds .any e = true → Inv.slotv ops a' e.on = vals e.on) → Region.wanted o (yielded ops a'.tmps) = false → vals i = undef)
    (fin : ∀ w', Hid (Hp S w0 w' R) → Q .normal (Inv.putAll a0 ops vals ops.size) w') : (Code.region id ops true).wp P Q a0 w := by
  refine Inv.wp_region_walks hm hb hdd N hN hnd hsz (fun w w' => Hp S w0 w R → Hp S w0 w' R) (fun _ h => h) (fun w' => Hp S w0 w' R) (fun j v _ => v = vals j) (fun _ _ _ _ _ _ h => h) (fun _ _ h ho => ho h) H.out.drew (fun i o ho a' w' hfr hW hdep hwant Q' hQ => ?_) (fun i o ho a' w' _ _ hdep hwant => ?_) (fun vs w' hW hF => ?_)
  · exact step i o ho a' w' hfr (Lib.hid hW) hdep hwant Q' (fun w'' H'' => hQ _ _ (fun _ => H''.out) rfl)
  · exact (skip i o ho a' hdep hwant).symm
  · rw [putAll_same a0 ops vs vals ops.size (fun j hj => hF j hj)]
    exact fin w' (Lib.hid hW)
end
end Go.Proofs.Ythflkhalipkdgaa.Mem
