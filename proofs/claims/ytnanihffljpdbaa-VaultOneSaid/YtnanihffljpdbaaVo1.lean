/- Layer 11: rows of snaps, as memory holds them; plain laws of who commits. -/
import Derived.Test.YtnanihffljpdbaaProg
import Derived.Below
import Derived.WalkKit
import Derived.KernelRfl
import Derived.RowKit3
import Derived.Deep.LoopGhost
import Derived.Deep.QuietTactic
import Derived.BigQuiet
import Derived.WideLaws
import Derived.Deep.DeepCutAuto
import Derived.Deep.CutBlock
import Derived.Lib.Hide
import Derived.Laws.BitsLemmas
import Derived.Laws.Bits64
import Derived.Laws.BitsAllLaws
import Derived.IntWalk
import Derived.Outline
import Derived.WalkSpells
import Derived.Test.YtnanihffljpdbaaGA
import Derived.Test.YtnanihffljpdbaaVt3
namespace Go.Proofs.Ytnanihffljpdbaa.Bk
open Go.RowKit Go.Proofs.Ytnanihffljpdbaa.Mem Go.Proofs.Ytnanihffljpdbaa.Reg Go.Proofs.Ytnanihffljpdbaa.Wk Go.Proofs.Ytnanihffljpdbaa.Si Go.Proofs.Ytnanihffljpdbaa.Ca Go.Proofs.Ytnanihffljpdbaa.Sc6 Go.Proofs.Ytnanihffljpdbaa.Vt
set_option linter.unusedVariables false
set_option linter.unusedSimpArgs false
structure SnV where
  b : BookV
  la : Option Addr
  lc : Nat
  da : Option Addr
  dc : Nat
def snapRow (c : Cfg) (s : SnV) : List Value := snL s.b.conf s.b.index s.b.room (.slice s.la s.b.live.length s.lc) (.slice s.da s.b.done.length s.dc) s.b.modes c c.keys 0
def snR1 (s : SnV) : Res := rS s.la s.lc 9 (s.b.live.map rowOf)
def snR2 (s : SnV) : Res := rS s.da s.dc 8 (s.b.done.map callRow)
/-- the books of snaps, as memory holds them -/
def rSnaps (l : List SnV) : Res := ⟨l.flatMap fun s => (snR1 s).foot ++ (snR2 s).foot, fun w => ∀ s ∈ l, (snR1 s).holds w ∧ (snR2 s).holds w, fun w w' h hh s hs => by
  have h1 : ∀ k ∈ (snR1 s).foot, w'.heap[k]? = w.heap[k]? := fun k hk => h k (List.mem_flatMap.2 ⟨s, hs, List.mem_append.2 (.inl hk)⟩)
  have h2 : ∀ k ∈ (snR2 s).foot, w'.heap[k]? = w.heap[k]? := fun k hk => h k (List.mem_flatMap.2 ⟨s, hs, List.mem_append.2 (.inr hk)⟩)
  exact ⟨(snR1 s).stable w w' h1 (hh s hs).1, (snR2 s).stable w w' h2 (hh s hs).2⟩, true⟩
section
variable {S : List Nat} {w0 w : World} {R : List Res}
/-- something that is read, of what is known to be read -/
theorem hp_more (H : Hid (Hp S w0 w R)) (r : Res) (hro : r.ro = true) (hh : r.holds w) (hf : ∀ k ∈ r.foot, ∃ q ∈ R, q.ro = true ∧ k ∈ q.foot) : Hid (Hp S w0 w (r :: R)) := by
  refine Lib.hid ⟨H.out.off, fun q hq => ?_, fun q hq k hk => ?_, fun q hq h0 k hk => ?_, List.pairwise_cons.2 ⟨fun q hq h0 k hk hk' => ?_, H.out.sep⟩⟩
  · rcases List.mem_cons.1 hq with rfl | hq
    · exact hh
    · exact H.out.holds q hq
  · rcases List.mem_cons.1 hq with rfl | hq
    · obtain ⟨z, hz, _, h2⟩ := hf k hk
      exact H.out.lt z hz k h2
    · exact H.out.lt q hq k hk
  · rcases List.mem_cons.1 hq with rfl | hq
    · rw [hro] at h0; cases h0
    · exact H.out.newf q hq h0 k hk
  · obtain ⟨z, hz, h1, h2⟩ := hf k hk
    rw [hro, Bool.true_and] at h0
    have hne : q ≠ z := fun e => by rw [e, h1] at h0; cases h0
    obtain ⟨a, ha, ea⟩ := List.getElem_of_mem hq
    obtain ⟨b, hb, eb⟩ := List.getElem_of_mem hz
    have hab : a ≠ b := fun e => by subst e; exact hne (ea.symm.trans eb)
    rcases Nat.lt_or_gt_of_ne hab with h | h
    · have h3 := List.pairwise_iff_getElem.1 H.out.sep a b ha hb h
      rw [ea, eb] at h3
      exact h3 (by rw [h0]; rfl) k hk' h2
    · have h3 := List.pairwise_iff_getElem.1 H.out.sep b a hb ha h
      rw [ea, eb] at h3
      exact h3 (by rw [h0, Bool.and_false]) k h2 hk'
theorem hp_snaps0 (H : Hid (Hp S w0 w R)) : Hid (Hp S w0 w (rSnaps [] :: R)) := hp_more H _ rfl (fun s hs => by cases hs) fun k hk => by cases hk
/-- one more, or another one -/
theorem hp_snapsAdd {l l' : List SnV} {s : SnV} (H : Hid (Hp S w0 w R)) (h1 : snR1 s ∈ R) (h2 : snR2 s ∈ R) (h3 : rSnaps l ∈ R) (hl : ∀ z ∈ l', z = s ∨ z ∈ l) : Hid (Hp S w0 w (rSnaps l' :: R)) := by
  refine hp_more H _ rfl (fun z hz => ?_) fun k hk => ?_
  · rcases hl z hz with rfl | h
    · exact ⟨H.out.holds _ h1, H.out.holds _ h2⟩
    · exact H.out.holds _ h3 z h
  · obtain ⟨z, hz, hk'⟩ := List.mem_flatMap.1 hk
    rcases hl z hz with rfl | h
    · rcases List.mem_append.1 hk' with h4 | h4
      · exact ⟨_, h1, rfl, h4⟩
      · exact ⟨_, h2, rfl, h4⟩
    · exact ⟨_, h3, rfl, List.mem_flatMap.2 ⟨z, h, hk'⟩⟩
theorem hp_snapsGet {l : List SnV} {s : SnV} (H : Hid (Hp S w0 w R)) (h3 : rSnaps l ∈ R) (hs : s ∈ l) : Hid (Hp S w0 w (snR1 s :: snR2 s :: R)) := by
  have h4 := H.out.holds _ h3 s hs
  refine hp_more (hp_more H (snR2 s) rfl h4.2 fun k hk => ⟨_, h3, rfl, List.mem_flatMap.2 ⟨s, hs, List.mem_append.2 (.inr hk)⟩⟩) (snR1 s) rfl h4.1 fun k hk => ⟨_, List.mem_cons_of_mem _ h3, rfl, List.mem_flatMap.2 ⟨s, hs, List.mem_append.2 (.inl hk)⟩⟩
end
theorem elSnap : ElI Try.prog 77 84 47 424 := ElI.of (by kernel_rfl) (by kernel_rfl) (by decide)
/-- what is known of snaps -/
def SnOk (l : List SnV) (b : BookV) : Prop := ∀ s ∈ l, InvB s.b ∧ s.b.index ≤ b.index ∧ (s.b.index = b.index → s.b = b)
theorem snOk_next {l : List SnV} {b d : BookV} (h : SnOk l b) (hd : d.index = b.index + 1) : SnOk l d := fun s hs => by
  have h1 := h s hs
  exact ⟨h1.1, by omega, fun e => by omega⟩
theorem snOk_set {l l' : List SnV} {b : BookV} {s : SnV} (h : SnOk l b) (hI : InvB b) (hs : s.b = b) (hl : ∀ z ∈ l', z = s ∨ z ∈ l) : SnOk l' b := fun z hz => by
  rcases hl z hz with rfl | h1
  · rw [hs]
    exact ⟨hI, Int.le_refl _, fun _ => rfl⟩
  · exact h z h1
def LogOk (ys : List ChgV) : Prop := ∀ (i : Nat) (z : ChgV), ys[i]? = some z → z.index = (i : Int) + 1
theorem logOk_snoc {ys : List ChgV} {ch : ChgV} (h : LogOk ys) (hc : ch.index = (ys.length : Int) + 1) : LogOk (ys ++ [ch]) := fun i z hz => by
  rcases Nat.lt_or_ge i ys.length with hi | hi
  · rw [List.getElem?_append_left hi] at hz
    exact h i z hz
  · have h1 := (List.getElem?_eq_some_iff.1 hz).1
    simp at h1
    obtain rfl : i = ys.length := by omega
    have h2 : z = ch := by simpa using hz.symm
    rw [h2]
    exact hc
theorem at_zero {ys : List ChgV} (h : LogOk ys) : ys.drop (atN ys 0) = ys := by
  cases ys with
  | nil => rfl
  | cons y l =>
    have h1 := h 0 y rfl
    simp [atN, List.findIdx_cons, h1]
theorem eight_is (n : Int) : ∃ m : Nat, IntKind.i64.wrap ((IntKind.u64.wrap n).tmod 8) = (m : Int) ∧ m < 8 := by
  have hP : 0 ≤ IntKind.u64.wrap n := by
    have h1 : IntKind.u64.bits = 64 := rfl
    unfold IntKind.wrap
    simp [h1, IntKind.signed]
    omega
  have hm : 0 ≤ (IntKind.u64.wrap n).tmod 8 ∧ (IntKind.u64.wrap n).tmod 8 < 8 := ⟨Int.tmod_nonneg _ hP, Int.tmod_lt_of_pos _ (by omega)⟩
  obtain ⟨m, hm2⟩ := Int.eq_ofNat_of_zero_le hm.1
  exact ⟨m, by rw [hm2]; exact IntWalk.i64_in _ (by omega), by omega⟩
theorem set_in {l : List SnV} {i : Nat} {s : SnV} : ∀ z ∈ l.set i s, z = s ∨ z ∈ l := fun z hz => (List.mem_or_eq_of_mem_set hz).symm
theorem snoc_in {l : List SnV} {s : SnV} : ∀ z ∈ l ++ [s], z = s ∨ z ∈ l := fun z hz => by
  rcases List.mem_append.1 hz with h | h
  · exact .inr h
  · exact .inl (List.mem_singleton.1 h)
theorem row_set {c : Cfg} {l : List SnV} {i : Nat} {s : SnV} : (l.map (snapRow c)).set i (snapRow c s) = (l.set i s).map (snapRow c) := List.map_set.symm
end Go.Proofs.Ytnanihffljpdbaa.Bk
