/- Layer 15: writers and readers that come in, and go on. -/
import Derived.Test.YtloemjhhedkhiaaProg
import Derived.Below
import Derived.WalkKit
import Derived.KernelRfl
import Derived.RowKit3
import Derived.Deep.LoopGhost
import Derived.Deep.QuietTactic
import Derived.BigQuiet
import Derived.WideLaws
import Derived.Deep.DeepCutAuto
import Derived.Deep.CutBlock
import Derived.Lib.Hide
import Derived.Laws.BitsLemmas
import Derived.Laws.Bits64
import Derived.Laws.BitsAllLaws
import Derived.IntWalk
import Derived.Outline
import Derived.WalkSpells
import Derived.Test.YtloemjhhedkhiaaMem
import Derived.Test.YtloemjhhedkhiaaRegS
import Derived.Test.YtloemjhhedkhiaaNb
import Derived.LoopN
namespace Go.Proofs.Ytloemjhhedkhiaa.Nt
open Go.RowKit Go.Proofs.Ytloemjhhedkhiaa.Mem Go.Proofs.Ytloemjhhedkhiaa.Pk Go.Proofs.Ytloemjhhedkhiaa.Reg
set_option linter.unusedVariables false
set_option linter.unusedSimpArgs false
section
variable {S : List Nat} {w0 w w' : World} {R : List Res}
/-- what a call leaves of a writer -/
def Puts (b : Nat) (F : List Nat) (m : Nat) (l : List Nat) (w w' : World) : Prop := ∃ F', (rOut b F' m l).holds w' ∧ (∀ k ∈ F', (k ∈ F ∨ w.heap.size ≤ k) ∧ k < w'.heap.size) ∧ Off F w w'
theorem hp_puts {F : List Nat} (H : Hid (Hp F w0 w R)) {b : Nat} {F' : List Nat} {m : Nat} {l : List Nat} (hm : rOut b F' m l ∈ R) : Puts b F m l w0 w :=
  ⟨F', H.out.holds _ hm, fun k hk => ⟨H.out.newf _ hm rfl k hk, H.out.lt _ hm k hk⟩, H.out.off⟩
theorem hp_put (H : Hid (Hp S w0 w R)) {b m m' i : Nat} {F : List Nat} {l l' : List Nat} (hi : R[i]? = some (rOut b F m l)) (h : Puts b F m' l' w w') : ∃ F', Hid (Hp S w0 w' (R.set i (rOut b F' m' l'))) := by
  obtain ⟨F', h1, h2, h3⟩ := h
  exact ⟨F', Lib.hid (H.out.step i hi _ h3 (fun k hk => hk) h1 h2)⟩
/-- a call that made nothing of a writer that is left -/
theorem hp_lost (H : Hid (Hp S w0 w R)) {b m i : Nat} {F : List Nat} {l : List Nat} (hi : R[i]? = some (rOut b F m l)) (h : Off F w w') : Hid (Hp S w0 w' (R.set i (rP True))) :=
  Lib.hid (H.out.step i hi _ h (fun k hk => hk) trivial (fun k hk => by cases hk))
theorem hp_wr {b m : Nat} {F l : List Nat} (h : (rOut b F m l).holds w) (hF : ∀ k ∈ F, k < w.heap.size) : Hid (Hp F w w [rOut b F m l]) :=
  Lib.hid ⟨Off.refl _ _, fun r hr => (List.mem_singleton.1 hr) ▸ h, fun r hr => (List.mem_singleton.1 hr) ▸ hF, fun r hr _ k hk => by rw [List.mem_singleton.1 hr] at hk; exact .inl hk, by simp⟩
theorem hp_oldS {a : Option Addr} {c k : Nat} {rows : List (List Value)} (H : Hid (Hp S w0 w R)) (h : (rS a c k rows).holds w0) (hk : 0 < k) (hd : ∀ q ∈ (rS a c k rows).foot, q ∉ S) : Hid (Hp S w0 w (rS a c k rows :: R)) := by
  have hl := rS_lt h hk
  refine Lib.hid (H.out.share _ (Off.refl [] w) ((rS a c k rows).stable w0 w (fun q hq => H.out.off.block q (hl q hq) (hd q hq)) h) rfl fun q hq => ?_)
  have := hl q hq
  have := H.out.off.size
  exact ⟨by omega, .inr (.inl ⟨by omega, hd q hq⟩)⟩
/-- two blocks that come in, and may change -/
theorem hp_two {b1 b2 : Nat} {t1 t2 : TypeId} {c1 c2 : List Value} (h1 : Blk w b1 c1.toArray t1) (h2 : Blk w b2 c2.toArray t2) (hne : b1 ≠ b2) : Hid (Hp [b1, b2] w w [rB b1 t1 c1, rB b2 t2 c2]) := by
  refine Lib.hid ⟨Off.refl _ _, fun r hr => ?_, fun r hr k hk => ?_, fun r hr _ k hk => ?_, ?_⟩
  · simp only [List.mem_cons, List.not_mem_nil, or_false] at hr
    rcases hr with rfl | rfl
    · exact h1
    · exact h2
  · simp only [List.mem_cons, List.not_mem_nil, or_false] at hr
    rcases hr with rfl | rfl
    · simp only [rB, List.mem_singleton] at hk; subst hk; exact h1.lt
    · simp only [rB, List.mem_singleton] at hk; subst hk; exact h2.lt
  · simp only [List.mem_cons, List.not_mem_nil, or_false] at hr
    rcases hr with rfl | rfl
    · simp only [rB, List.mem_singleton] at hk; subst hk; simp
    · simp only [rB, List.mem_singleton] at hk; subst hk; simp
  · simp [rB, hne]
/-- a call that changed two blocks -/
theorem hp_twice {b1 b2 : Nat} {t1 t2 : TypeId} {c1 c2 d1 d2 : List Value} (H : Hid (Hp S w0 w (rB b1 t1 c1 :: rB b2 t2 c2 :: R))) (h1 : Blk w' b1 d1.toArray t1) (h2 : Blk w' b2 d2.toArray t2) (ho : Off [b1, b2] w w') :
    Hid (Hp S w0 w' (rB b1 t1 d1 :: rB b2 t2 d2 :: R)) := by
  have hs := List.pairwise_cons.1 H.out.sep
  have hs2 := List.pairwise_cons.1 hs.2
  have lt1 := H.out.lt _ (List.mem_cons_self ..) b1 (by simp [rB])
  have lt2 := H.out.lt (rB b2 t2 c2) (by simp) b2 (by simp [rB])
  have off1 : ∀ r ∈ R, ∀ k ∈ r.foot, k ≠ b1 := fun r hr k hk e => hs.1 r (by simp [hr]) rfl b1 (by simp [rB]) (e ▸ hk)
  have off2 : ∀ r ∈ R, ∀ k ∈ r.foot, k ≠ b2 := fun r hr k hk e => hs2.1 r hr rfl b2 (by simp [rB]) (e ▸ hk)
  refine Lib.hid ⟨H.out.off.trans ho ?_, fun r hr => ?_, fun r hr k hk => ?_, fun r hr hro k hk => ?_, List.pairwise_cons.2 ⟨fun r hr hro k hk => ?_, List.pairwise_cons.2 ⟨fun r hr hro k hk => ?_, hs2.2⟩⟩⟩
  · intro i hi hm
    simp only [List.mem_cons, List.not_mem_nil, or_false] at hm
    rcases hm with rfl | rfl
    · rcases H.out.newf _ (List.mem_cons_self ..) rfl i (by simp [rB]) with h | h
      · exact h
      · omega
    · rcases H.out.newf (rB i t2 c2) (by simp) rfl i (by simp [rB]) with h | h
      · exact h
      · omega
  · simp only [List.mem_cons] at hr
    rcases hr with rfl | rfl | hr
    · exact h1
    · exact h2
    · refine r.stable w w' (fun k hk => ho.block k (H.out.lt r (by simp [hr]) k hk) ?_) (H.out.holds r (by simp [hr]))
      have := off1 r hr k hk
      have := off2 r hr k hk
      simp [*]
  · simp only [List.mem_cons] at hr
    rcases hr with rfl | rfl | hr
    · simp only [rB, List.mem_singleton] at hk; subst hk; exact h1.lt
    · simp only [rB, List.mem_singleton] at hk; subst hk; exact h2.lt
    · exact Nat.lt_of_lt_of_le (H.out.lt r (by simp [hr]) k hk) ho.size
  · simp only [List.mem_cons] at hr
    rcases hr with rfl | rfl | hr
    · exact H.out.newf _ (List.mem_cons_self ..) rfl k hk
    · exact H.out.newf (rB b2 t2 c2) (by simp) rfl k hk
    · exact H.out.newf r (by simp [hr]) hro k hk
  · simp only [List.mem_cons] at hr
    rcases hr with rfl | hr
    · exact hs.1 (rB b2 t2 c2) (List.mem_cons_self ..) rfl k hk
    · exact hs.1 r (by simp [hr]) hro k hk
  · exact hs2.1 r hr hro k hk
theorem hp_gives2 {b1 b2 : Nat} {t1 t2 : TypeId} {c1 c2 : List Value} (H : Hid (Hp S w0 w R)) (h1 : rB b1 t1 c1 ∈ R) (h2 : rB b2 t2 c2 ∈ R) : Blk w b1 c1.toArray t1 ∧ Blk w b2 c2.toArray t2 ∧ Off S w0 w := ⟨H.out.holds _ h1, H.out.holds _ h2, H.out.off⟩
def intRow (x : Int) : List Value := [.int .i64 x]
/-- a block of rows as a slice that is read -/
theorem rS_blk {g c : Nat} {ns : List Int} (h : Blk w g (ns.map (Value.int .i64)).toArray 3) : (rS (some ⟨g, 0, none⟩) c 1 (ns.map intRow)).holds w := by
  refine ⟨.inr ⟨⟨g, 0, none⟩, c, by rw [List.length_map], fun i hi j u hu => ?_⟩, fun r hr => ?_⟩
  · have hi' : i < ns.length := by simpa using hi
    cases j with
    | zero =>
      have hu' : u = .int .i64 ns[i] := by simpa [intRow] using hu.symm
      subst hu'
      have e : ((⟨g, 0, none⟩ : Addr).add (i * 1)).add 0 = ⟨g, i, none⟩ := by
        simp [Addr.add]
        exact fun h => h.symm
      rw [e]
      exact h.cell i _ (by simp [hi'])
    | succ j => simp [intRow] at hu
  · obtain ⟨x, _, rfl⟩ := List.mem_map.1 hr
    exact ⟨rfl, fun u hu => by rw [List.mem_singleton.1 hu]; rfl⟩
end
theorem exec_fnil_eql {P : Program} {o : Oper} {act : Act} {w : World} {p q : Operand} {t yt : TypeId} {xs ys : Array TypeId} {b : Bool} {f : Fn} {u v : Array Value} (ho : o.op = .binOp .eql t p q yt) (hp : act.eval p = .func f u v) (hq : act.eval q = .nilFunc) (hu : P.underlying t = some (.func xs ys b)) : (execOp act.eval o).run P w = .ok (.value (.bool false)) w := by
  unfold execOp
  simp [ho, hp, hq, eqGuard, eql_fn_nil w t hu]
theorem neq_fn_nil {P : Program} (w : World) (t : TypeId) {xs ys : Array TypeId} {b : Bool} (h : P.underlying t = some (.func xs ys b)) (f : Fn) (u v : Array Value) : (binOp .neq t (.func f u v) .nilFunc).run P w = .ok (.bool true) w := by
  simp only [binOp]
  simp [Op.equal, Op.maxDepth, run_equalIn_func_nil w 9999 t h]
theorem exec_fnil_neq {P : Program} {o : Oper} {act : Act} {w : World} {p q : Operand} {t yt : TypeId} {xs ys : Array TypeId} {b : Bool} {f : Fn} {u v : Array Value} (ho : o.op = .binOp .neq t p q yt) (hp : act.eval p = .func f u v) (hq : act.eval q = .nilFunc) (hu : P.underlying t = some (.func xs ys b)) : (execOp act.eval o).run P w = .ok (.value (.bool true)) w := by
  unfold execOp
  simp [ho, hp, hq, eqGuard, neq_fn_nil w t hu]
/-- numbers' four bytes, of counts -/
def bigB (n : Int) : Bool := decide (1073741824 < n)
def cntsV (ns : List Int) : List Nat × Bool := if ns.any bigB = true then ([], false) else encs 4 ns
theorem cnts_len (ns : List Int) : (cntsV ns).1.length ≤ 8 * ns.length := by
  unfold cntsV
  split
  · simp
  · exact encs_len 4 ns
end Go.Proofs.Ytloemjhhedkhiaa.Nt
