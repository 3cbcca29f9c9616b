/- Layer 9: books: what is known; memory of two slices that a call hands out. -/
import Derived.Test.YtnanihffljpdbaaProg
import Derived.Below
import Derived.WalkKit
import Derived.KernelRfl
import Derived.RowKit3
import Derived.Deep.LoopGhost
import Derived.Deep.QuietTactic
import Derived.BigQuiet
import Derived.WideLaws
import Derived.Deep.DeepCutAuto
import Derived.Deep.CutBlock
import Derived.Lib.Hide
import Derived.Laws.BitsLemmas
import Derived.Laws.Bits64
import Derived.Laws.BitsAllLaws
import Derived.IntWalk
import Derived.Outline
import Derived.WalkSpells
import Derived.Test.YtnanihffljpdbaaMem
import Derived.Test.YtnanihffljpdbaaBc1
import Derived.Test.YtnanihffljpdbaaHpS
namespace Go.Proofs.Ytnanihffljpdbaa.Bk
open Go.RowKit Go.Proofs.Ytnanihffljpdbaa.Mem Go.Proofs.Ytnanihffljpdbaa.Reg Go.Proofs.Ytnanihffljpdbaa.Wk Go.Proofs.Ytnanihffljpdbaa.Si Go.Proofs.Ytnanihffljpdbaa.Ca Go.Proofs.Ytnanihffljpdbaa.Sc6
set_option linter.unusedVariables false
set_option linter.unusedSimpArgs false

def callRow (x : CallV) : List Value := [.int .i64 x.id, .int .i64 x.kind, .int .i64 x.src, .int .i64 x.dst, .int .i64 x.car, .int .i64 x.state, .int .i64 x.owner, .int .i64 x.born]
theorem call_wf (xs : List CallV) : Wf 8 (xs.map callRow) := by
  intro r hr
  obtain ⟨z, _, rfl⟩ := List.mem_map.1 hr
  exact ⟨rfl, by simp [callRow, Value.oneCell']⟩
/-- what is known: of which building, how many changes, the calls that go on, those that ended, the cars' modes -/
structure BookV where
  conf : Cfg
  index : Int
  room : Int
  live : List PairV
  done : List CallV
  modes : List Int
structure OkB (b : BookV) : Prop where
  sorted : Sorted b.live
  live : (b.live.length : Int) ≤ b.room ∧ b.room ≤ 65536
  done : (b.done.length : Int) ≤ b.conf.calls ∧ b.conf.calls ≤ 64
  modes : b.modes.length = 4
  index : 0 ≤ b.index ∧ b.index ≤ 1073741824
/-- a book that a call hands out -/
def Gives2 (w w' : World) (Rs : List Res) (la : Option Addr) (lc : Nat) (da : Option Addr) (dc : Nat) (b : BookV) : Prop := (rS la lc 9 (b.live.map rowOf)).holds w' ∧ (rS da dc 8 (b.done.map callRow)).holds w' ∧ From w Rs (rS la lc 9 (b.live.map rowOf)).foot ∧ From w Rs (rS da dc 8 (b.done.map callRow)).foot ∧ Off [] w w'
theorem get4 (r : List Int) {i : Nat} (hi : i < 4) (l : List Value) (hl : l.length = 22) : (l ++ ([.int .i64 (r.getD 0 0), .int .i64 (r.getD 1 0), .int .i64 (r.getD 2 0), .int .i64 (r.getD 3 0)] : List Value))[22 + i]? = some (.int .i64 (r.getD i 0)) := by
  rw [← hl, List.getElem?_append_right (by omega)]
  have : i = 0 ∨ i = 1 ∨ i = 2 ∨ i = 3 := by omega
  rcases this with rfl | rfl | rfl | rfl <;> simp
theorem set4 (r : List Int) (hr : r.length = 4) {i : Nat} (hi : i < 4) (l : List Value) (hl : l.length = 22) (v : Int) : (l ++ ([.int .i64 (r.getD 0 0), .int .i64 (r.getD 1 0), .int .i64 (r.getD 2 0), .int .i64 (r.getD 3 0)] : List Value)).set (22 + i) (.int .i64 v) = l ++ ([.int .i64 ((r.set i v).getD 0 0), .int .i64 ((r.set i v).getD 1 0), .int .i64 ((r.set i v).getD 2 0), .int .i64 ((r.set i v).getD 3 0)] : List Value) := by
  rw [← hl, List.set_append_right _ _ (by omega)]
  match r, hr with
  | [a0, a1, a2, a3], _ =>
    have : i = 0 ∨ i = 1 ∨ i = 2 ∨ i = 3 := by omega
    rcases this with rfl | rfl | rfl | rfl <;> simp
section
variable {S : List Nat} {w0 w w' : World} {R R' : List Res} {a a1 a2 : Option Addr} {c k c1 k1 c2 k2 : Nat} {rows rows1 rows2 : List (List Value)}
theorem hp_got3 (HS : Hid (Hp S w0 w R)) (H : Hid (Hp S w0 w' R')) (hsub : ∀ p ∈ R', p.ro = false → p ∈ R) {Rs : List Res} (hs : (rS a c k rows).holds w') (hk : 0 < k) (hf : From w Rs (rS a c k rows).foot) (hR : ∀ r ∈ Rs, r ∈ R) : Hid (Hp S w0 w' (rS a c k rows :: R')) := by
  refine Lib.hid ⟨H.out.off, fun p hp => ?_, fun p hp q hq => ?_, fun p hp hpo q hq => ?_, List.pairwise_cons.2 ⟨fun p hp hpo q hq hq' => ?_, H.out.sep⟩⟩
  · rcases List.mem_cons.1 hp with rfl | hp
    · exact hs
    · exact H.out.holds p hp
  · rcases List.mem_cons.1 hp with rfl | hp
    · exact rS_lt hs hk q hq
    · exact H.out.lt p hp q hq
  · rcases List.mem_cons.1 hp with rfl | hp
    · cases hpo
    · exact H.out.newf p hp hpo q hq
  · have hpo' : p.ro = false := by simpa [rS] using hpo
    have hp := hsub p hp hpo'
    have hl := HS.out.lt p hp q hq'
    rcases hf q hq with h | ⟨r, hr, h1, h2⟩
    · omega
    · have hrR := hR r hr
      obtain ⟨i, hi, rfl⟩ := List.getElem_of_mem hrR
      obtain ⟨j, hj, rfl⟩ := List.getElem_of_mem hp
      rcases Nat.lt_trichotomy i j with h3 | h3 | h3
      · exact List.pairwise_iff_getElem.1 HS.out.sep i j hi hj h3 (by rw [hpo', Bool.and_false]) q h2 hq'
      · subst h3
        rw [h1] at hpo'
        cases hpo'
      · exact List.pairwise_iff_getElem.1 HS.out.sep j i hj hi h3 (by rw [hpo', Bool.false_and]) q hq' h2
/-- two slices that a call hands out -/
theorem hp_gotB (H : Hid (Hp S w0 w R)) (ho : Off [] w w') {Rs : List Res} (h1 : (rS a1 c1 k1 rows1).holds w') (h2 : (rS a2 c2 k2 rows2).holds w') (hk1 : 0 < k1) (hk2 : 0 < k2) (hf1 : From w Rs (rS a1 c1 k1 rows1).foot) (hf2 : From w Rs (rS a2 c2 k2 rows2).foot) (hR : ∀ r ∈ Rs, r ∈ R) : Hid (Hp S w0 w' (rS a1 c1 k1 rows1 :: rS a2 c2 k2 rows2 :: R)) := by
  have H1 := hp_got3 H (Lib.hid (H.out.quiet ho)) (fun p hp _ => hp) h2 hk2 hf2 hR
  exact hp_got3 H H1 (fun p hp hpo => by
    rcases List.mem_cons.1 hp with rfl | hp
    · cases hpo
    · exact hp) h1 hk1 hf1 hR
end
end Go.Proofs.Ytnanihffljpdbaa.Bk
