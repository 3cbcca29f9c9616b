/- HpF HpS Bk0 -/
import Derived.Test.YtnanihffljpdbaaProg
import Derived.Below
import Derived.WalkKit
import Derived.KernelRfl
import Derived.RowKit3
import Derived.Deep.LoopGhost
import Derived.Deep.QuietTactic
import Derived.BigQuiet
import Derived.WideLaws
import Derived.Deep.DeepCutAuto
import Derived.Deep.CutBlock
import Derived.Lib.Hide
import Derived.Laws.BitsLemmas
import Derived.Laws.Bits64
import Derived.Laws.BitsAllLaws
import Derived.IntWalk
import Derived.Outline
import Derived.WalkSpells
import Derived.Test.YtnanihffljpdbaaGA
import Derived.Test.YtnanihffljpdbaaGI
import Derived.Test.YtnanihffljpdbaaGR
import Derived.Test.YtnanihffljpdbaaBc1
/- A region that draws, in whatever order, with the memory as one hypothesis: each operation is walked once; what is known of its value is told ahead. -/
namespace Go.Proofs.Ytnanihffljpdbaa.Mem
set_option linter.unusedVariables false
set_option linter.unusedSimpArgs false
open Go.RowKit
section
variable {P : Program} {ops : Array Oper} {Q : Exit → Act → World → Prop} {S : List Nat} {w0 w : World} {R : List Res}
theorem hp_walksF {id : Nat} {a0 : Act} (H : Hid (Hp S w0 w R)) (F : Nat → Value → World → Prop) (hF : ∀ j v w w', F j v w → Off [] w w' → F j v w') (hm : P.follows .mixedOrders = true) (hb : Inv.backward ops) (hdd : Inv.distinctDst ops = true) (N : Nat) (hN : a0.tmps.size = N) (hnd : (ops.all fun o => o.dst.isSome) = true) (hsz : (ops.all fun o => match o.dst with | some d => decide (d < N) | none => true) = true)
    (step : ∀ i o, ops[i]? = some o → ∀ a' w', Inv.Fr ops a0 a' → Hid (Hp S w0 w' R) → (∀ e ∈ o.after, Region.binds .any e = true → F e.on (Inv.slotv ops a' e.on) w') → Region.wanted o (yielded ops a'.tmps) = true → ∀ Q' : Exit → Act → World → Prop, (∀ v w'', Off [] w' w'' → Hid (Hp S w0 w'' R) → F i v w'' → Q' .normal (a'.put o.dst v) w'') → wpList P ops Q' [o] a' w')
    (skip : ∀ i o, ops[i]? = some o → ∀ a' w', (∀ e ∈ o.after, Region.binds .any e = true → F e.on (Inv.slotv ops a' e.on) w') → Region.wanted o (yielded ops a'.tmps) = false → F i undef w')
    (fin : ∀ vs w', Hid (Hp S w0 w' R) → (∀ j, j < ops.size → F j (vs j) w') → Q .normal (Inv.putAll a0 ops vs ops.size) w') : (Code.region id ops true).wp P Q a0 w := by
  refine Inv.wp_region_walks hm hb hdd N hN hnd hsz (Off []) (Off.refl []) (fun w' => Hp S w0 w' R) F (fun j v w w' _ ho h => hF j v w w' h ho) (fun _ _ h ho => h.quiet ho) H.out.drew (fun i o ho a' w' hfr hW hdep hwant Q' hQ => ?_) (fun i o ho a' w' _ _ hdep hwant => skip i o ho a' w' hdep hwant) (fun vs w' hW hF' => fin vs w' (Lib.hid hW) hF')
  exact step i o ho a' w' hfr (Lib.hid hW) hdep hwant Q' (fun v w'' h1 h2 h3 => hQ v w'' h1 h3)
end
end Go.Proofs.Ytnanihffljpdbaa.Mem

/- A region that draws, whose last operations wait for all ahead of them, with the memory as one hypothesis. -/
namespace Go.Proofs.Ytnanihffljpdbaa.Mem
set_option linter.unusedVariables false
set_option linter.unusedSimpArgs false
open Go.RowKit
section
variable {P : Program} {ops pre : Array Oper} {Q : Exit → Act → World → Prop} {S : List Nat} {w0 w w' : World} {R : List Res} {a : Option Addr} {c k : Nat} {rows : List (List Value)}
theorem hp_split {id : Nat} {a0 : Act} (H : Hid (Hp S w0 w R)) (F : Nat → Value → World → Prop) (hF : ∀ j v w w', F j v w → Off [] w w' → F j v w') (hm : P.follows .mixedOrders = true) (hb : Inv.backward ops) (m : Nat) (hpz : pre.size = m) (hpre : ops.toList.take m = pre.toList) (htail : Inv.tailAfter m ops = true) (hin : Inv.preIn m pre = true) (hdd : Inv.distinctDst pre = true) (N : Nat) (hN : a0.tmps.size = N) (hnd : (pre.all fun o => o.dst.isSome) = true) (hsz : (pre.all fun o => match o.dst with | some d => decide (d < N) | none => true) = true)
    (step : ∀ i o, pre[i]? = some o → ∀ a' w', Inv.Fr pre a0 a' → Hid (Hp S w0 w' R) → w.heap.size ≤ w'.heap.size → (∀ e ∈ o.after, Region.binds .any e = true → F e.on (Inv.slotv pre a' e.on) w') → Region.wanted o (yielded ops a'.tmps) = true → ∀ Q' : Exit → Act → World → Prop, (∀ v w'', Off [] w' w'' → Hid (Hp S w0 w'' R) → F i v w'' → Q' .normal (a'.put o.dst v) w'') → wpList P ops Q' [o] a' w')
    (skip : ∀ i o, pre[i]? = some o → ∀ a' w', (∀ e ∈ o.after, Region.binds .any e = true → F e.on (Inv.slotv pre a' e.on) w') → Region.wanted o (yielded ops a'.tmps) = false → F i undef w')
    (fin : ∀ vs w', Hid (Hp S w0 w' R) → w.heap.size ≤ w'.heap.size → (∀ j, j < m → F j (vs j) w') → wpList P ops Q (ops.toList.drop m) (Inv.putAll a0 pre vs pre.size) w') : (Code.region id ops true).wp P Q a0 w := by
  refine Inv.wp_region_split hm hb m hpz hpre htail hin hdd N hN hnd hsz (Off []) (Off.refl []) (fun w' => Hp S w0 w' R ∧ w.heap.size ≤ w'.heap.size) F (fun j v w w' _ ho h => hF j v w w' h ho) (fun _ _ h ho => ⟨h.1.quiet ho, Nat.le_trans h.2 ho.size⟩) ⟨H.out.drew, Nat.le_refl _⟩ (fun i o ho a' w' hfr hW hdep hwant Q' hQ => ?_) (fun i o ho a' w' _ _ hdep hwant => skip i o ho a' w' hdep hwant) (fun vs w' hW hF' => fin vs w' (Lib.hid hW.1) hW.2 hF')
  exact step i o ho a' w' hfr (Lib.hid hW.1) hW.2 hdep hwant Q' (fun v w'' h1 h2 h3 => hQ v w'' h1 h3)
/-- a slice that a call handed out within a region -/
theorem hp_got2 (HS : Hid (Hp S w0 w R)) (H : Hid (Hp S w0 w' R)) {Rs : List Res} (hs : (rS a c k rows).holds w') (hk : 0 < k) (hf : From w Rs (rS a c k rows).foot) (hR : ∀ r ∈ Rs, r ∈ R) : Hid (Hp S w0 w' (rS a c k rows :: R)) := by
  refine Lib.hid ⟨H.out.off, fun p hp => ?_, fun p hp q hq => ?_, fun p hp hpo q hq => ?_, List.pairwise_cons.2 ⟨fun p hp hpo q hq hq' => ?_, H.out.sep⟩⟩
  · rcases List.mem_cons.1 hp with rfl | hp
    · exact hs
    · exact H.out.holds p hp
  · rcases List.mem_cons.1 hp with rfl | hp
    · exact rS_lt hs hk q hq
    · exact H.out.lt p hp q hq
  · rcases List.mem_cons.1 hp with rfl | hp
    · cases hpo
    · exact H.out.newf p hp hpo q hq
  · have hpo' : p.ro = false := by simpa [rS] using hpo
    have hl := HS.out.lt p hp q hq'
    rcases hf q hq with h | ⟨r, hr, h1, h2⟩
    · omega
    · have hrR := hR r hr
      obtain ⟨i, hi, rfl⟩ := List.getElem_of_mem hrR
      obtain ⟨j, hj, rfl⟩ := List.getElem_of_mem hp
      rcases Nat.lt_trichotomy i j with h3 | h3 | h3
      · exact List.pairwise_iff_getElem.1 H.out.sep i j hi hj h3 (by rw [hpo', Bool.and_false]) q h2 hq'
      · subst h3
        rw [h1] at hpo'
        cases hpo'
      · exact List.pairwise_iff_getElem.1 H.out.sep j i hj hi h3 (by rw [hpo', Bool.false_and]) q hq' h2
end
end Go.Proofs.Ytnanihffljpdbaa.Mem

/- Layer 9: books: what is known; memory of two slices that a call hands out. -/
namespace Go.Proofs.Ytnanihffljpdbaa.Bk
set_option linter.unusedVariables false
set_option linter.unusedSimpArgs false
open Go.RowKit Go.Proofs.Ytnanihffljpdbaa.Mem Go.Proofs.Ytnanihffljpdbaa.Reg Go.Proofs.Ytnanihffljpdbaa.Wk Go.Proofs.Ytnanihffljpdbaa.Si Go.Proofs.Ytnanihffljpdbaa.Ca Go.Proofs.Ytnanihffljpdbaa.Sc6
set_option linter.unusedVariables false
set_option linter.unusedSimpArgs false

def callRow (x : CallV) : List Value := [.int .i64 x.id, .int .i64 x.kind, .int .i64 x.src, .int .i64 x.dst, .int .i64 x.car, .int .i64 x.state, .int .i64 x.owner, .int .i64 x.born]
theorem call_wf (xs : List CallV) : Wf 8 (xs.map callRow) := by
  intro r hr
  obtain ⟨z, _, rfl⟩ := List.mem_map.1 hr
  exact ⟨rfl, by simp [callRow, Value.oneCell']⟩
/-- what is known: of which building, how many changes, the calls that go on, those that ended, the cars' modes -/
structure BookV where
  conf : Cfg
  index : Int
  room : Int
  live : List PairV
  done : List CallV
  modes : List Int
structure OkB (b : BookV) : Prop where
  sorted : Sorted b.live
  live : (b.live.length : Int) ≤ b.room ∧ b.room ≤ 65536
  done : (b.done.length : Int) ≤ b.conf.calls ∧ b.conf.calls ≤ 64
  modes : b.modes.length = 4
  index : 0 ≤ b.index ∧ b.index ≤ 1073741824
/-- a book that a call hands out -/
def Gives2 (w w' : World) (Rs : List Res) (la : Option Addr) (lc : Nat) (da : Option Addr) (dc : Nat) (b : BookV) : Prop := (rS la lc 9 (b.live.map rowOf)).holds w' ∧ (rS da dc 8 (b.done.map callRow)).holds w' ∧ From w Rs (rS la lc 9 (b.live.map rowOf)).foot ∧ From w Rs (rS da dc 8 (b.done.map callRow)).foot ∧ Off [] w w'
theorem get4 (r : List Int) {i : Nat} (hi : i < 4) (l : List Value) (hl : l.length = 22) : (l ++ ([.int .i64 (r.getD 0 0), .int .i64 (r.getD 1 0), .int .i64 (r.getD 2 0), .int .i64 (r.getD 3 0)] : List Value))[22 + i]? = some (.int .i64 (r.getD i 0)) := by
  rw [← hl, List.getElem?_append_right (by omega)]
  have : i = 0 ∨ i = 1 ∨ i = 2 ∨ i = 3 := by omega
  rcases this with rfl | rfl | rfl | rfl <;> simp
theorem set4 (r : List Int) (hr : r.length = 4) {i : Nat} (hi : i < 4) (l : List Value) (hl : l.length = 22) (v : Int) : (l ++ ([.int .i64 (r.getD 0 0), .int .i64 (r.getD 1 0), .int .i64 (r.getD 2 0), .int .i64 (r.getD 3 0)] : List Value)).set (22 + i) (.int .i64 v) = l ++ ([.int .i64 ((r.set i v).getD 0 0), .int .i64 ((r.set i v).getD 1 0), .int .i64 ((r.set i v).getD 2 0), .int .i64 ((r.set i v).getD 3 0)] : List Value) := by
  rw [← hl, List.set_append_right _ _ (by omega)]
  match r, hr with
  | [a0, a1, a2, a3], _ =>
    have : i = 0 ∨ i = 1 ∨ i = 2 ∨ i = 3 := by omega
    rcases this with rfl | rfl | rfl | rfl <;> simp
section
variable {S : List Nat} {w0 w w' : World} {R R' : List Res} {a a1 a2 : Option Addr} {c k c1 k1 c2 k2 : Nat} {rows rows1 rows2 : List (List Value)}
theorem hp_got3 (HS : Hid (Hp S w0 w R)) (H : Hid (Hp S w0 w' R')) (hsub : ∀ p ∈ R', p.ro = false → p ∈ R) {Rs : List Res} (hs : (rS a c k rows).holds w') (hk : 0 < k) (hf : From w Rs (rS a c k rows).foot) (hR : ∀ r ∈ Rs, r ∈ R) : Hid (Hp S w0 w' (rS a c k rows :: R')) := by
  refine Lib.hid ⟨H.out.off, fun p hp => ?_, fun p hp q hq => ?_, fun p hp hpo q hq => ?_, List.pairwise_cons.2 ⟨fun p hp hpo q hq hq' => ?_, H.out.sep⟩⟩
  · rcases List.mem_cons.1 hp with rfl | hp
    · exact hs
    · exact H.out.holds p hp
  · rcases List.mem_cons.1 hp with rfl | hp
    · exact rS_lt hs hk q hq
    · exact H.out.lt p hp q hq
  · rcases List.mem_cons.1 hp with rfl | hp
    · cases hpo
    · exact H.out.newf p hp hpo q hq
  · have hpo' : p.ro = false := by simpa [rS] using hpo
    have hp := hsub p hp hpo'
    have hl := HS.out.lt p hp q hq'
    rcases hf q hq with h | ⟨r, hr, h1, h2⟩
    · omega
    · have hrR := hR r hr
      obtain ⟨i, hi, rfl⟩ := List.getElem_of_mem hrR
      obtain ⟨j, hj, rfl⟩ := List.getElem_of_mem hp
      rcases Nat.lt_trichotomy i j with h3 | h3 | h3
      · exact List.pairwise_iff_getElem.1 HS.out.sep i j hi hj h3 (by rw [hpo', Bool.and_false]) q h2 hq'
      · subst h3
        rw [h1] at hpo'
        cases hpo'
      · exact List.pairwise_iff_getElem.1 HS.out.sep j i hj hi h3 (by rw [hpo', Bool.false_and]) q hq' h2
/-- two slices that a call hands out -/
theorem hp_gotB (H : Hid (Hp S w0 w R)) (ho : Off [] w w') {Rs : List Res} (h1 : (rS a1 c1 k1 rows1).holds w') (h2 : (rS a2 c2 k2 rows2).holds w') (hk1 : 0 < k1) (hk2 : 0 < k2) (hf1 : From w Rs (rS a1 c1 k1 rows1).foot) (hf2 : From w Rs (rS a2 c2 k2 rows2).foot) (hR : ∀ r ∈ Rs, r ∈ R) : Hid (Hp S w0 w' (rS a1 c1 k1 rows1 :: rS a2 c2 k2 rows2 :: R)) := by
  have H1 := hp_got3 H (Lib.hid (H.out.quiet ho)) (fun p hp _ => hp) h2 hk2 hf2 hR
  exact hp_got3 H H1 (fun p hp hpo => by
    rcases List.mem_cons.1 hp with rfl | hp
    · cases hpo
    · exact hp) h1 hk1 hf1 hR
end
end Go.Proofs.Ytnanihffljpdbaa.Bk
