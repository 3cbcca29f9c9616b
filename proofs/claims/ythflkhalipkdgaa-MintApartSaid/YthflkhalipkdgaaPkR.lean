/- Layer 2's writer and reader as things in a list of memory. -/
import Derived.Test.YthflkhalipkdgaaProg
import Derived.Below
import Derived.WalkKit
import Derived.KernelRfl
import Derived.RowKit3
import Derived.Deep.LoopGhost
import Derived.Deep.QuietTactic
import Derived.BigQuiet
import Derived.WideLaws
import Derived.Deep.DeepCutAuto
import Derived.Deep.CutBlock
import Derived.Lib.Hide
import Derived.Laws.BitsLemmas
import Derived.Laws.Bits64
import Derived.Laws.BitsAllLaws
import Derived.IntWalk
import Derived.Outline
import Derived.WalkSpells
import Derived.Test.YthflkhalipkdgaaMem
import Derived.Test.YthflkhalipkdgaaHp
import Derived.Test.YthflkhalipkdgaaMem2
import Derived.Test.YthflkhalipkdgaaPk4
namespace Go.Proofs.Ythflkhalipkdgaa.Pk
set_option maxRecDepth 20000
set_option linter.unusedVariables false
set_option linter.unusedSimpArgs false
open Go.RowKit Go.Proofs.Ythflkhalipkdgaa.Mem

theorem owns_same {w w' : World} {base : Nat} {e : TypeId} {size : Nat} {v : Value} {n : Nat} {xs : List Value} (ho : w.ownsRow base e size v n xs) (h : ∀ k, v.ownBlock = some k → w'.heap[k]? = w.heap[k]?) : w'.ownsRow base e size v n xs := by
  obtain ⟨h1, h2⟩ := ho
  refine ⟨h1, ?_⟩
  rcases h2 with h2 | ⟨g, cap, cur, hv, hg, hh, r⟩
  · exact Or.inl h2
  · subst hv
    refine Or.inr ⟨g, cap, cur, rfl, hg, ?_, r⟩
    rw [h g (by simp [Value.ownBlock])]
    exact hh
/-- a writer: its blocks, its bytes, how many they may be -/
def rOut (b : Nat) (F : List Nat) (m : Nat) (l : List Nat) : Res := ⟨F, fun w => l.length ≤ m ∧ ∃ v, OutAt w b v l ∧ ∀ k ∈ foot b v, k ∈ F, by
  rintro w w' h ⟨hm, v, hv, hF⟩
  refine ⟨hm, v, ⟨?_, owns_same hv.owns fun k hk => h k (hF k (by simp [foot, hk])), hv.apart, hv.small⟩, hF⟩
  have := hv.blk
  unfold Blk at this ⊢
  rw [h b (hF b (by simp [foot]))]
  exact this, false⟩
/-- numbers' bytes, all of them or none -/
def encs (wd : Int) (ns : List Int) : List Nat × Bool := if (wide wd && ns.all (fitsV wd)) = true then (beBs wd.toNat ns, true) else ([], false)
theorem encs_len (wd : Int) (ns : List Int) : (encs wd ns).1.length ≤ 8 * ns.length := by
  unfold encs
  split
  · rename_i h
    have := wide_cases (w := wd) (by simp at h; exact h.1)
    show (beBs _ _).length ≤ _
    rw [beBs_length]
    exact Nat.mul_le_mul_right _ (by omega)
  · simp
theorem outNums (b : Nat) (wd : Int) (ns : List Int) (g c : Nat) (v : Value) (l : List Nat) (w : World) (hl : ns.length ≤ 65536) (hll : l.length ≤ 1099511627776) (ho : OutAt w b v l) (hg : Blk w g (ns.map (Value.int .i64)).toArray 3) (hgf : g ∉ foot b v) :
    Calls Try.prog 40 #[.pointer (some ⟨b, 0, none⟩), .int .i64 wd, .slice (some ⟨g, 0, none⟩) ns.length c] w fun e w' => e = .returned (.bool (encs wd ns).2) ∧ ∃ v', OutAt w' b v' (l ++ (encs wd ns).1) ∧ Goes w v v' ∧ Off (foot b v) w w' := by
  have hgb : g ≠ b := fun e => hgf (by simp [foot, e])
  have hgv : some g ≠ v.ownBlock := fun e => hgf (by simp [foot, ← e])
  have hr : ∀ (i : Nat) (h : i < ns.length), w.cell? ((⟨g, 0, none⟩ : Addr).add i) = some (.int .i64 ns[i]) := fun i hi => by
    have e : (⟨g, 0, none⟩ : Addr).add i = ⟨g, i, none⟩ := by unfold Addr.add; split <;> simp_all
    rw [e]
    exact hg.cell i _ (by simp [hi])
  unfold encs
  by_cases hw : wide wd = true
  · cases hf : ns.all (fitsV wd)
    · rw [if_neg (by simp)]
      refine (outNum_no b wd ⟨g, 0, none⟩ ns c w hw (by omega) hr hf).mono ?_
      rintro e w' ⟨rfl, rfl⟩
      exact ⟨rfl, v, by simpa using ho, Goes.refl _ _, Off.refl _ _⟩
    · rw [if_pos (by simp [hw])]
      obtain ⟨a, rfl⟩ : ∃ a : Nat, wd = (a : Int) := ⟨wd.toNat, by have := wide_cases hw; omega⟩
      exact outNum_yes b a ⟨g, 0, none⟩ ns c v l w hw hl hll hr hf ho hgb hgv
  · rw [if_neg (by simp [hw])]
    refine (outNum_bad b wd _ w (by simpa using hw)).mono ?_
    rintro e w' ⟨rfl, rfl⟩
    exact ⟨rfl, v, by simpa using ho, Goes.refl _ _, Off.refl _ _⟩
section
variable {S : List Nat} {w0 w : World} {R : List Res}
theorem Hp.two (h : Hp S w0 w R) {i j : Nat} {r q : Res} (hi : R[i]? = some r) (hj : R[j]? = some q) (hij : i ≠ j) (hro : (r.ro && q.ro) = false := by first | rfl | assumption | exact Bool.and_false _) : ∀ k ∈ r.foot, k ∉ q.foot := by
  obtain ⟨hi1, rfl⟩ := List.getElem?_eq_some_iff.1 hi
  obtain ⟨hj1, rfl⟩ := List.getElem?_eq_some_iff.1 hj
  have hp := List.pairwise_iff_getElem.1 h.sep
  rcases Nat.lt_or_gt_of_ne hij with h1 | h1
  · exact hp i j hi1 hj1 h1 hro
  · exact fun k hk hk' => hp j i hj1 hi1 h1 (by rw [Bool.and_comm]; exact hro) k hk' hk
/-- the writer takes numbers -/
theorem outNumsH (H : Hid (Hp S w0 w R)) {b g : Nat} {wd : Int} {ns : List Int} {F : List Nat} {m : Nat} {l : List Nat} {c i j n : Nat} {cs : List Value} (hi : R[i]? = some (rOut b F m l)) (hj : R[j]? = some (rB g 3 cs)) (hcs : cs = ns.map (Value.int .i64)) (hn : ns.length = n) (hn8 : n ≤ 8) (hm : m ≤ 1099511627776) :
    Calls Try.prog 40 #[.pointer (some ⟨b, 0, none⟩), .int .i64 wd, .slice (some ⟨g, 0, none⟩) n c] w fun e w' => e = .returned (.bool (encs wd ns).2) ∧ ∃ F', Hid (Hp S w0 w' (R.set i (rOut b F' (m + 8 * n) (l ++ (encs wd ns).1)))) := by
  subst hcs
  subst hn
  obtain ⟨hlm, v, hv, hF⟩ := H.out.at i hi
  have hgF : g ∉ F := by
    have hij : j ≠ i := by
      intro e
      subst e
      rw [hi] at hj
      have h1 : rOut b F m l = rB g 3 (ns.map (Value.int .i64)) := by injection hj
      have h2 : F = [g] := congrArg Res.foot h1
      have h3 : (rOut b F m l).holds w := H.out.at j hi
      rw [h1] at h3
      have h4 : Blk w g (ns.map (Value.int .i64)).toArray 3 := h3
      have hbg : b = g := by have := hF b (by simp [foot]); rw [h2] at this; simpa using this
      have h5 := hv.blk
      subst hbg
      unfold Blk at h4 h5
      rw [h4] at h5
      have h6 : (Obj.cells (ns.map (Value.int .i64)).toArray 3 (0, 0)) = .cells #[v] 92 (0, 0) := by injection h5
      have h7 : (3 : Nat) = 92 := by injection h6
      revert h7
      decide
    exact (Hp.two H.out hj hi hij rfl) g (by simp [rB])
  refine (outNums b wd ns g c v l w (by omega) (by omega) hv (H.out.at j hj) (fun h => hgF (hF g h))).mono ?_
  rintro e w' ⟨rfl, v', hv', hgo, hoff⟩
  refine ⟨rfl, foot b v', Lib.hid (H.out.step i hi _ (hoff.mono (T := F) fun k _ hk => hF k hk) (fun k hk => hk) ⟨?_, v', hv', fun k hk => hk⟩ fun k hk => ⟨?_, out_lt hv' k hk⟩)⟩
  · have := encs_len wd ns
    rw [List.length_append]
    omega
  · rcases Grow.foot hgo k hk with h1 | h1
    · exact .inl (hF k h1)
    · exact .inr h1
theorem outStringH (H : Hid (Hp S w0 w R)) {b : Nat} {F : List Nat} {m : Nat} {l : List Nat} {i : Nat} (hi : R[i]? = some (rOut b F m l)) :
    Calls Try.prog 41 #[.pointer (some ⟨b, 0, none⟩)] w fun e w' => e = .returned (.string (str l)) ∧ w = w' := by
  obtain ⟨hlm, v, hv, hF⟩ := H.out.at i hi
  exact outString b v l w hv
/-- a reader -/
theorem inNumH (H : Hid (Hp S w0 w R)) {b : Nat} {s : ByteArray} {bad : Bool} {n : Int} {i : Nat} (hi : R[i]? = some (rB b 116 [.string s, .bool bad])) :
    Calls Try.prog 43 #[.pointer (some ⟨b, 0, none⟩), .int .i64 n] w fun e w' => e = .returned (.int .i64 ((inNumV s bad n).1 : Nat)) ∧ Hid (Hp S w0 w' (R.set i (rB b 116 [.string (inNumV s bad n).2.1, .bool (inNumV s bad n).2.2]))) := by
  refine (inNum b s bad w n (H.out.at i hi)).mono ?_
  rintro e w' ⟨rfl, hin, hoff⟩
  exact ⟨rfl, Lib.hid (H.out.step i hi _ hoff (by simp [rB]) hin (by simp only [rB, List.mem_singleton]; rintro k rfl; exact ⟨.inl rfl, Blk.lt hin⟩))⟩
theorem inEndH (H : Hid (Hp S w0 w R)) {b : Nat} {s : ByteArray} {bad : Bool} {i : Nat} (hi : R[i]? = some (rB b 116 [.string s, .bool bad])) :
    Calls Try.prog 44 #[.pointer (some ⟨b, 0, none⟩)] w fun e w' => e = .returned (.bool (!bad && s.toList.isEmpty)) ∧ w = w' := inEnd b s bad w (H.out.at i hi)
theorem inOfH (H : Hid (Hp S w0 w R)) {s : ByteArray} :
    Calls Try.prog 42 #[.string s] w fun e w' => ∃ b, e = .returned (.pointer (some ⟨b, 0, none⟩)) ∧ Hid (Hp S w0 w' (rB b 116 [.string s, .bool false] :: R)) := by
  refine (inOf s w).mono ?_
  rintro e w' ⟨b, rfl, hb, hin, hoff⟩
  exact ⟨b, rfl, Lib.hid (H.out.push _ hoff hin (by simp only [rB, List.mem_singleton]; rintro k rfl; exact ⟨hb, Blk.lt hin⟩))⟩
/-- a new writer -/
theorem outNewH {b : Nat} (H : Hid (Hp S w0 w (rB b 92 [.slice none 0 0] :: R))) : Hid (Hp S w0 w (rOut b [b] 0 [] :: R)) := by
  have hb := H.out.blk 0 rfl
  have hh : (rOut b [b] 0 []).holds w := ⟨by simp, .slice none 0 0, ⟨hb, World.ownsRow_nil _ _ _ _, by simp [Value.ownBlock], by simp⟩, by simp [foot, Value.ownBlock]⟩
  refine Lib.hid ⟨H.out.off, fun r hr => ?_, fun r hr k hk => ?_, fun r hr hro k hk => ?_, ?_⟩
  · rcases List.mem_cons.1 hr with rfl | hr
    · exact hh
    · exact H.out.holds r (by simp [hr])
  · rcases List.mem_cons.1 hr with rfl | hr
    · exact H.out.lt _ (List.mem_cons_self ..) k hk
    · exact H.out.lt r (by simp [hr]) k hk
  · rcases List.mem_cons.1 hr with rfl | hr
    · exact H.out.new _ (List.mem_cons_self ..) k hk
    · exact H.out.newf r (by simp [hr]) hro k hk
  · have := List.pairwise_cons.1 H.out.sep
    exact List.pairwise_cons.2 ⟨this.1, this.2⟩
end
end Go.Proofs.Ythflkhalipkdgaa.Pk
