/- A builder in a list of memory: what lies below it stays. -/
import Derived.Test.YthflkhalipkdgaaGreatProg
import Derived.Below
import Derived.WalkKit
import Derived.KernelRfl
import Derived.RowKit3
import Derived.Deep.LoopGhost
import Derived.Deep.QuietTactic
import Derived.BigQuiet
import Derived.WideLaws
import Derived.Deep.DeepCutAuto
import Derived.Deep.CutBlock
import Derived.Lib.Hide
import Derived.Laws.BitsLemmas
import Derived.Laws.Bits64
import Derived.Laws.BitsAllLaws
import Derived.IntWalk
import Derived.Outline
import Derived.WalkSpells
import Derived.Test.YthflkhalipkdgaaGreatGA
import Derived.Test.YthflkhalipkdgaaGreatBld
import Derived.Test.YthflkhalipkdgaaGreatBdS
import Derived.Test.YthflkhalipkdgaaGreatWk2
namespace Go.Proofs.YthflkhalipkdgaaGreat.Bld
set_option maxRecDepth 20000
open Go.RowKit Go.Proofs.YthflkhalipkdgaaGreat.Inv Go.Proofs.YthflkhalipkdgaaGreat.Mem Go.Proofs.YthflkhalipkdgaaGreat.Reg Go.Proofs.YthflkhalipkdgaaGreat.Wk
set_option linter.unusedVariables false
set_option linter.unusedSimpArgs false
/-- a builder, its blocks, its bytes -/
def rBd (b : Nat) (F : List Nat) (l : List UInt8) : Res := ⟨F, fun w => Lib.IsBuilder 85 5 b b (Lib.byteCells l) w ∧ (∀ p v, w.heap[b]? = some (.cells #[p, v] 85 (0, 0)) → ∀ k ∈ b :: v.ownBlock.toList, k ∈ F) ∧ b ∈ F, by
  rintro w w' h ⟨h1, h2, h3⟩
  have hb := h b h3
  refine ⟨?_, fun p v hv k hk => h2 p v (by rw [← hb]; exact hv) k hk, h3⟩
  have go : ∀ p, Lib.BuilderAt 85 5 b b p (Lib.byteCells l) w → Lib.BuilderAt 85 5 b b p (Lib.byteCells l) w' := by
    rintro p ⟨hB, v, hbk, hown, hne⟩
    refine ⟨hB, v, by rw [hb]; exact hbk, ?_, hne⟩
    obtain ⟨g1, g2⟩ := hown
    refine ⟨g1, ?_⟩
    rcases g2 with g2 | ⟨g, cap, cur, hv, hg, hh, r⟩
    · exact .inl g2
    · subst hv
      refine .inr ⟨g, cap, cur, rfl, hg, ?_, r⟩
      rw [h g (h2 p _ hbk g (by simp [Value.ownBlock]))]
      exact hh
  rcases h1 with h1 | h1
  · exact .inl (go _ h1)
  · exact .inr (go _ h1), false⟩
section
variable {P : Program} {ops : Array Oper} {rest : List Oper} {o : Oper} {a : Act} {w w' w0 : World} {Q : Exit → Act → World → Prop} {S : List Nat} {R R' : List Res} {K : Env} {N d : Nat}
theorem at_blocks {b : Nat} {p : Value} {l : List Value} (h : Lib.BuilderAt 85 5 b b p l w) : ∃ F : List Nat, (∀ q v, w.heap[b]? = some (.cells #[q, v] 85 (0, 0)) → ∀ k ∈ b :: v.ownBlock.toList, k ∈ F) ∧ b ∈ F ∧ (∀ k ∈ F, b ≤ k ∧ k < w.heap.size) := by
  obtain ⟨hB, v, hbk, hown, hne⟩ := h
  refine ⟨b :: v.ownBlock.toList, fun q u hq k hk => ?_, List.mem_cons_self .., fun k hk => ?_⟩
  · rw [hbk] at hq
    have : v = u := by
      have := Option.some.inj hq
      simp at this
      exact this.2
    rw [this]
    exact hk
  · rcases List.mem_cons.1 hk with rfl | hk
    · exact ⟨Nat.le_refl _, lt_of_block hbk⟩
    · obtain ⟨g1, g2⟩ := hown
      rcases g2 with ⟨hv, _⟩ | ⟨g, cap, cur, hv, hg, hh, _⟩
      · rw [hv] at hk; simp [Value.ownBlock] at hk
      · rw [hv] at hk
        simp [Value.ownBlock] at hk
        subst hk
        exact ⟨hg, lt_of_block hh⟩
theorem below_off {b : Nat} (h : Off [] w0 w) (hb : Below b w w') (hB : w0.heap.size ≤ b) : Off [] w0 w' :=
  ⟨hb.os.trans h.os, hb.tape.trans h.tape, hb.output.trans h.output, Nat.le_trans h.size hb.size, fun k hk hn => (hb.block k (by omega)).trans (h.block k hk hn)⟩
/-- what lies below a builder, behind a call that turned what lies above -/
theorem hp_below (H : Hid (Hp [] w0 w R)) {b : Nat} (hlt : ∀ r ∈ R, ∀ k ∈ r.foot, k < b) (hb : Below b w w') (hB : w0.heap.size ≤ b) : Hid (Hp [] w0 w' R) :=
  Lib.hid ⟨below_off H.out.off hb hB, fun r hr => r.stable w w' (fun k hk => hb.block k (hlt r hr k hk)) (H.out.holds r hr), fun r hr k hk => Nat.lt_of_lt_of_le (H.out.lt r hr k hk) hb.size, H.out.newf, H.out.sep⟩
theorem hp_bd (H : Hid (Hp [] w0 w R)) {b : Nat} {l : List UInt8} (hlt : ∀ r ∈ R, ∀ k ∈ r.foot, k < b) (hb : Below b w w') (hB : w0.heap.size ≤ b) (hi : Lib.IsBuilder 85 5 b b (Lib.byteCells l) w') : ∃ F, Hid (Hp [] w0 w' (rBd b F l :: R)) := by
  have H2 := hp_below H hlt hb hB
  obtain ⟨F, h1, h2, h3⟩ : ∃ F : List Nat, (∀ q v, w'.heap[b]? = some (.cells #[q, v] 85 (0, 0)) → ∀ k ∈ b :: v.ownBlock.toList, k ∈ F) ∧ b ∈ F ∧ (∀ k ∈ F, b ≤ k ∧ k < w'.heap.size) := by
    rcases hi with hi | hi
    · exact at_blocks hi
    · exact at_blocks hi
  refine ⟨F, Lib.hid ⟨H2.out.off, fun r hr => ?_, fun r hr k hk => ?_, fun r hr hro k hk => ?_, List.pairwise_cons.2 ⟨fun r hr _ k hk hk' => ?_, H2.out.sep⟩⟩⟩
  · rcases List.mem_cons.1 hr with rfl | hr
    · exact ⟨hi, h1, h2⟩
    · exact H2.out.holds r hr
  · rcases List.mem_cons.1 hr with rfl | hr
    · exact (h3 k hk).2
    · exact H2.out.lt r hr k hk
  · rcases List.mem_cons.1 hr with rfl | hr
    · exact .inr (by have := (h3 k hk).1; omega)
    · exact H2.out.newf r hr hro k hk
  · have := (h3 k hk).1
    have := hlt r hr k hk'
    omega
/-- a new builder: it lies above all that is known -/
theorem wAlB (hg : o.guard = none) (hd : o.dst = some d) (hN : Nat.blt d N = true) (ho : o.op = .alloc 85) (n : ∀ b F, (∀ r ∈ R, ∀ k ∈ r.foot, k < b) → w0.heap.size ≤ b → Wk N [] w0 ((d, .pointer (some ⟨b, 0, none⟩)) :: K) (rBd b F [] :: R) (wpList Tryz.prog ops Q rest)) : Wk N [] w0 K R (wpList Tryz.prog ops Q (o :: rest)) := by
  intro a w hz hdf hs H
  refine wpList_plain hg fun K' hK => ?_
  unfold Oper.wp execOp
  simp only [ho, Sem.run_bind, Sem.run_pure, Result.andThen_ok]
  have e : (Instr.alloc 85 true (.tuple #[])).run Tryz.prog w = .ok (.pointer (some ⟨w.heap.size, 0, none⟩)) (w.alloc (.cells #[.pointer none, .slice none 0 0] 85)) := by
    obtain ⟨i, hi, hz⟩ := Option.map_eq_some_iff.1 (show (Tryz.prog.info? 85).map (fun i => i.zero) = some (some (.agg #[.pointer none, .slice none 0 0])) by kernel_rfl)
    have hq : (zeroValue 85).run Tryz.prog w = .ok (.agg #[.pointer none, .slice none 0 0]) w := by simp [zeroValue, typeInfo, hi, hz]
    unfold Instr.alloc
    rw [Sem.run_bind, hq]
    simp [newVar, newRow, Value.cells]
  rw [e]
  simp only [Result.andThen_ok, Sem.run_pure]
  have hfresh : Lib.IsBuilder 85 5 w.heap.size w.heap.size (Lib.byteCells []) (w.alloc (.cells #[.pointer none, .slice none 0 0] 85)) := by
    refine .inl ⟨Nat.le_refl _, .slice none 0 0, ?_, World.ownsRow_nil _ _ _ _, by simp [Value.ownBlock]⟩
    show (w.heap.push _)[w.heap.size]? = _
    simp
  obtain ⟨F, H2⟩ := hp_bd H (b := w.heap.size) (l := []) (fun r hr k hk => H.out.lt r hr k hk) (((Off.refl [] w).alloc _).to_below) H.out.off.size hfresh
  rw [Oper.upon_value]
  refine hK _ _ ?_
  rw [hd]
  exact n w.heap.size F (fun r hr k hk => H.out.lt r hr k hk) H.out.off.size _ _ (by rw [put_size]; exact hz) (by rw [put_defers]; exact hdf) (hs.put (by rw [hz]; exact blt_of hN)) H2
end
theorem writeStr (b : Nat) (F : List Nat) (l : List UInt8) (s : ByteArray) (w : World) (h : (rBd b F l).holds w) (hlen : l.length + s.size ≤ 140737488355328) (hb : b ≤ w.heap.size) :
    Calls Tryz.prog 36 #[.pointer (some ⟨b, 0, none⟩), .string s] w fun e w' => e = .returned (.tuple #[.int .i64 s.size, .nilIface]) ∧ Lib.IsBuilder 85 5 b b (Lib.byteCells (l ++ s.data.toList)) w' ∧ Below b w w' := by
  refine (writeString b b (Lib.byteCells l) s w h.1 (by rw [Lib.byteCells_length]; exact hlen) hb).mono ?_
  rintro e w' ⟨he, h1, h2⟩
  refine ⟨he, .inr ?_, h2⟩
  rw [Lib.strCells_eq] at h1
  rw [show Lib.byteCells (l ++ s.data.toList) = Lib.byteCells l ++ Lib.byteCells s.data.toList from by simp [Lib.byteCells]]
  exact h1
theorem strOf (b : Nat) (F : List Nat) (l : List UInt8) (w : World) (h : (rBd b F l).holds w) (hb : b ≤ w.heap.size) :
    Calls Tryz.prog 37 #[.pointer (some ⟨b, 0, none⟩)] w fun e w' => e = .returned (.string ⟨l.toArray⟩) ∧ Below b w w' := shString_any b b l w h.1 hb
end Go.Proofs.YthflkhalipkdgaaGreat.Bld
