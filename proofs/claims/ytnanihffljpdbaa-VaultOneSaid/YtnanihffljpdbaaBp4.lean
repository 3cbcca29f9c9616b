/- Layer 9, plain laws: who cancels first plays no part. -/
import Derived.Test.YtnanihffljpdbaaProg
import Derived.Below
import Derived.WalkKit
import Derived.KernelRfl
import Derived.RowKit3
import Derived.Deep.LoopGhost
import Derived.Deep.QuietTactic
import Derived.BigQuiet
import Derived.WideLaws
import Derived.Deep.DeepCutAuto
import Derived.Deep.CutBlock
import Derived.Lib.Hide
import Derived.Laws.BitsLemmas
import Derived.Laws.Bits64
import Derived.Laws.BitsAllLaws
import Derived.IntWalk
import Derived.Outline
import Derived.WalkSpells
import Derived.Test.YtnanihffljpdbaaGA
import Derived.Test.YtnanihffljpdbaaBp3
namespace Go.Proofs.Ytnanihffljpdbaa.Bk
open Go.RowKit Go.Proofs.Ytnanihffljpdbaa.Mem Go.Proofs.Ytnanihffljpdbaa.Reg Go.Proofs.Ytnanihffljpdbaa.Si Go.Proofs.Ytnanihffljpdbaa.Ca Go.Proofs.Ytnanihffljpdbaa.Sc6
set_option linter.unusedVariables false
set_option linter.unusedSimpArgs false
section
variable {b : BookV} {x : CallV}
/-- a book of calls that wait -/
structure WaitB (b : BookV) : Prop where
  inv : InvB b
  done : b.done = []
  wait : ∀ p ∈ b.live, p.2.state = 1
theorem wait_new (c : Cfg) : WaitB (newB c) := by
  refine ⟨inv_new c, ?_, ?_⟩
  · unfold newB
    cases (checkV c != 0) <;> rfl
  · intro p hp
    unfold newB at hp
    cases h : (checkV c != 0) <;> rw [h] at hp <;> cases hp
theorem ins_mem {ps : List PairV} {i : Nat} {q p : PairV} (h : p ∈ insAt ps i q) : p = q ∨ p ∈ ps := by
  unfold insAt at h
  rcases List.mem_append.1 h with h | h
  · exact .inr (List.mem_of_mem_take h)
  · rcases List.mem_cons.1 h with h | h
    · exact .inl h
    · exact .inr (List.mem_of_mem_drop h)
theorem place_form (hI : InvB b) (hix : b.index < 1073741824) {owner now : Int} (he : (placeV b x owner now).2.2 = 0) : ∃ y : CallV, y.state = 1 ∧ (placeV b x owner now).1 = ⟨b.conf, b.index + 1, b.room, insAt b.live (posV y.id b.live) (y.id, y), b.done, b.modes⟩ := by
  have hr := hI.ok.index
  unfold placeV at he ⊢
  rw [min_is hix] at he ⊢
  cases h1 : ((newCV b.conf x (b.index + 1) owner now).2 != 0) with
  | true =>
    rw [h1] at he
    have : (newCV b.conf x (b.index + 1) owner now).2 = 0 := he
    rw [this] at h1
    cases h1
  | false =>
    rw [h1] at he
    simp only [cond_false] at he ⊢
    have h2 : (newCV b.conf x (b.index + 1) owner now).2 = 0 := by simpa using h1
    have hy : (newCV b.conf x (b.index + 1) owner now).1.state = 1 ∧ (newCV b.conf x (b.index + 1) owner now).1.id = b.index + 1 := by
      unfold newCV at h2 ⊢
      cases e : (checkCallV b.conf x != 0) with
      | true =>
        rw [e] at h2
        simp only [cond_true] at h2
        rw [h2] at e
        cases e
      | false =>
        rw [e] at h2
        simp only [cond_false] at h2 ⊢
        cases e : ((decide (min (b.index + 1) owner < 1) || decide (now < 0)) || decide (1073741824 < max (max (b.index + 1) owner) now)) with
        | true => rw [e] at h2; cases h2
        | false => exact ⟨rfl, rfl⟩
    refine ⟨(newCV b.conf x (b.index + 1) owner now).1, hy.1, ?_⟩
    revert he hy
    generalize (newCV b.conf x (b.index + 1) owner now).1 = y
    intro he hy
    have hl : livesV y = true := by rw [lives_iff]; omega
    have hnot : isV y.id b.live = false := not_new hI (by omega)
    unfold nextV at he ⊢
    rw [decide_eq_false (by omega), hl] at he ⊢
    simp only [cond_false, Bool.not_true] at he ⊢
    cases h6 : ((b.live.length : Int) == b.room) with
    | true => rw [with_full hnot h6] at he; cases he
    | false =>
      rw [with_new hnot h6]
      rfl
theorem wait_place (h : WaitB b) (hix : b.index < 1073741824) {owner now : Int} (he : (placeV b x owner now).2.2 = 0) : WaitB (placeV b x owner now).1 := by
  obtain ⟨y, hy, e⟩ := place_form h.inv hix he
  refine ⟨(place_toR h.inv hix owner now).2, by rw [e]; exact h.done, ?_⟩
  rw [e]
  intro p hp
  rcases ins_mem hp with rfl | hp
  · exact hy
  · exact h.wait p hp
theorem without_filter {ps : List PairV} (hs : Sorted ps) (k : Int) : withoutV k ps = ps.filter (fun p => p.1 != k) := by
  cases h : isV k ps with
  | true =>
    obtain ⟨A, v, B, e, hp, hA, hB⟩ := is_split hs h
    rw [without_split e hp h, e, List.filter_append, List.filter_cons]
    have f : ∀ l : List PairV, (∀ p ∈ l, p.1 ≠ k) → l.filter (fun p => p.1 != k) = l := fun l hl => List.filter_eq_self.2 fun p hp => by simpa using hl p hp
    rw [f A hA, f B hB]
    simp
  | false =>
    rw [without_no h]
    exact (List.filter_eq_self.2 fun p hp => by simpa using is_false_ne hs h p hp).symm
theorem get_find {ps : List PairV} (hs : Sorted ps) (k : Int) : getV k ps = match ps.find? (fun p => p.1 == k) with | some p => (p.2, true) | none => (zeroC, false) := by
  cases h : isV k ps with
  | true =>
    obtain ⟨A, v, B, e, hp, hA, hB⟩ := is_split hs h
    have hn : A.find? (fun p => p.1 == k) = none := by
      rw [List.find?_eq_none]
      intro p hp
      simpa using hA p hp
    rw [get_split e hp h, e, List.find?_append, hn]
    simp
  | false =>
    have hn : ps.find? (fun p => p.1 == k) = none := by
      rw [List.find?_eq_none]
      intro p hp
      simpa using is_false_ne hs h p hp
    rw [get_no h, hn]
theorem get_without {ps : List PairV} (hs : Sorted ps) {a k : Int} (h : a ≠ k) : getV k (withoutV a ps) = getV k ps := by
  rw [get_find (sorted_without hs a), get_find hs, without_filter hs, List.find?_filter]
  congr 1
  refine congrArg (fun f => List.find? f ps) (funext fun p => ?_)
  rw [Bool.eq_iff_iff]
  simp
  omega
theorem without_comm {ps : List PairV} (hs : Sorted ps) (a k : Int) : withoutV k (withoutV a ps) = withoutV a (withoutV k ps) := by
  rw [without_filter (sorted_without hs a), without_filter hs, without_filter (sorted_without hs k), without_filter hs, List.filter_filter, List.filter_filter]
  congr 1
  funext p
  rw [Bool.and_comm]
theorem without_one {ps : List PairV} (hs : Sorted ps) {k : Int} (h : (getV k ps).2 = true) : (withoutV k ps).length + 1 = ps.length := by
  rw [get_is _ _ hs] at h
  obtain ⟨A, v, B, e, hp, _, _⟩ := is_split hs h
  rw [without_split e hp h, e]
  simp
  omega
theorem find_get (hd : b.done = []) {id : Int} (h : (findV b id).2 = true) : getV id b.live = ((findV b id).1, true) := by
  unfold findV at h ⊢
  cases e : (getV id b.live).2 with
  | true => simp only [cond_true]; rw [← e]
  | false =>
    rw [e, hd] at h
    cases h
theorem cancel_form (hI : InvB b) (hix : b.index < 1073741824) (h0 : (b.room == 0) = false) {id : Int} (hg : getV id b.live = (x, true)) (hs : x.state = 1) : (cancelBV b id x.owner).2.2 = 0 ∧ (cancelBV b id x.owner).1.live = withoutV id b.live ∧ (cancelBV b id x.owner).1.index = b.index + 1 ∧ (cancelBV b id x.owner).1.room = b.room ∧ (cancelBV b id x.owner).1.modes = b.modes ∧ (cancelBV b id x.owner).1.conf = b.conf := by
  have hf : findV b id = (x, true) := by unfold findV; rw [hg]; rfl
  have hid : x.id = id := by
    have := (find_live_is hI (b := b) (id := id) (by rw [hf]) (by rw [hf]; exact (lives_iff x).2 (by omega))).2
    rwa [hf] at this
  unfold cancelBV
  rw [h0, hf]
  simp only [cond_false, Bool.not_true]
  rw [show (x.owner != x.owner) = false by simp]
  have hc : cancelV x = (⟨x.id, x.kind, x.src, x.dst, x.car, 5, x.owner, x.born⟩, 0) := by
    unfold cancelV toV
    rw [hs]
    rfl
  rw [hc]
  simp only [cond_false, show ((0 : Int) != 0) = false from rfl]
  unfold nextV
  rw [decide_eq_false (by omega)]
  simp only [cond_false]
  rw [show livesV ⟨x.id, x.kind, x.src, x.dst, x.car, 5, x.owner, x.born⟩ = false from rfl]
  simp only [Bool.not_false, cond_true]
  rw [hid]
  refine ⟨?_, ?_, ?_, ?_, ?_, ?_⟩ <;> first | trivial | rfl
theorem set_form (hI : InvB b) (hix : b.index < 1073741824) (h0 : (b.room == 0) = false) {m : Int} (hm : m = 1 ∨ m = 2) : (setV b 1 m).2.2 = 0 ∧ (setV b 1 m).1.live = b.live ∧ (setV b 1 m).1.index = b.index + 1 ∧ (setV b 1 m).1.room = b.room ∧ (setV b 1 m).1.modes = b.modes.set 0 m ∧ (setV b 1 m).1.conf = b.conf := by
  have hc := (hI.live h0).1
  have hci := (cfg_in (c := b.conf) (by rw [hc]; rfl)).2
  have e1 : (!(carV b.conf 1)) = false := by rw [carV_is hc, decide_eq_false (by omega), decide_eq_false (by omega)]; rfl
  have e2 : ((m != 1) && (m != 2)) = false := by rcases hm with rfl | rfl <;> rfl
  unfold setV
  rw [h0, e1, e2, decide_eq_false (by omega)]
  exact ⟨rfl, rfl, rfl, rfl, rfl, rfl⟩
end
def aP (s : BookV) (a : Int) : BookV × ChgV × Int := cancelBV s a (findV s a).1.owner
def aQ (s : BookV) (a m : Int) : BookV × ChgV × Int := setV (aP s a).1 1 m
def aR (s : BookV) (a c m : Int) : BookV × ChgV × Int := cancelBV (aQ s a m).1 c (findV s c).1.owner
def aV (s : BookV) (a c : Int) : BookV × ChgV × Int := cancelBV (aP s c).1 a (findV s a).1.owner
def aW (s : BookV) (a c m : Int) : BookV × ChgV × Int := setV (aV s a c).1 1 m
structure Apart (s : BookV) (a c m : Int) : Prop where
  p : (aP s a).2.2 = 0
  q : (aQ s a m).2.2 = 0
  r : (aR s a c m).2.2 = 0
  u : (aP s c).2.2 = 0
  v : (aV s a c).2.2 = 0
  w : (aW s a c m).2.2 = 0
  ip : InvB (aP s a).1
  iq : InvB (aQ s a m).1
  ir : InvB (aR s a c m).1
  iu : InvB (aP s c).1
  iv : InvB (aV s a c).1
  iw : InvB (aW s a c m).1
  live : (aW s a c m).1.live = (aR s a c m).1.live
  index : (aW s a c m).1.index = (aR s a c m).1.index
  mode : modeV (aW s a c m).1 1 = modeV (aR s a c m).1 1
  len : (aR s a c m).1.live.length + 2 = s.live.length
theorem apart_all {s : BookV} (hW : WaitB s) (hix : s.index ≤ 60) {a c m : Int} (ha : (findV s a).2 = true) (hc : (findV s c).2 = true) (hne : a ≠ c) (hm : m = 1 ∨ m = 2) : Apart s a c m := by
  have ga := find_get hW.done ha
  have gc := find_get hW.done hc
  have h0 : (s.room == 0) = false := by
    rcases hW.inv.room with e | ⟨h1, h2⟩
    · rw [e] at ha
      cases ha
    · exact hW.inv.is h1
  have hst : ∀ {k : Int} {x : CallV}, getV k s.live = (x, true) → x.state = 1 := fun {k x} h => by
    have h1 := get_find hW.inv.ok.sorted k
    rw [h] at h1
    cases e : s.live.find? (fun p => p.1 == k) with
    | none => rw [e] at h1; cases h1
    | some p =>
      rw [e] at h1
      have : x = p.2 := congrArg Prod.fst h1
      rw [this]
      exact hW.wait p (List.mem_of_find?_eq_some e)
  have sa := hst ga
  have sc := hst gc
  have fP := cancel_form hW.inv (by omega) h0 ga sa
  have iP := (cancel_toR hW.inv a (findV s a).1.owner).2
  have fU := cancel_form hW.inv (by omega) h0 gc sc
  have iU := (cancel_toR hW.inv c (findV s c).1.owner).2
  obtain ⟨p1, p2, p3, p4, p5, p6⟩ := fP
  obtain ⟨u1, u2, u3, u4, u5, u6⟩ := fU
  have fQ := set_form iP (by rw [p3]; omega) (by rw [p4]; exact h0) hm
  have iQ := (set_toR iP 1 m).2
  obtain ⟨q1, q2, q3, q4, q5, q6⟩ := fQ
  have gR : getV c (setV (cancelBV s a (findV s a).1.owner).1 1 m).1.live = ((findV s c).1, true) := by rw [q2, p2, get_without hW.inv.ok.sorted hne]; exact gc
  have fR := cancel_form iQ (by rw [q3, p3]; omega) (by rw [q4, p4]; exact h0) gR sc
  have iR := (cancel_toR iQ c (findV s c).1.owner).2
  obtain ⟨r1, r2, r3, r4, r5, r6⟩ := fR
  have gV : getV a (cancelBV s c (findV s c).1.owner).1.live = ((findV s a).1, true) := by rw [u2, get_without hW.inv.ok.sorted (Ne.symm hne)]; exact ga
  have fV := cancel_form iU (by rw [u3]; omega) (by rw [u4]; exact h0) gV sa
  have iV := (cancel_toR iU a (findV s a).1.owner).2
  obtain ⟨v1, v2, v3, v4, v5, v6⟩ := fV
  have fW := set_form iV (by rw [v3, u3]; omega) (by rw [v4, u4]; exact h0) hm
  have iW := (set_toR iV 1 m).2
  obtain ⟨w1, w2, w3, w4, w5, w6⟩ := fW
  refine ⟨p1, q1, r1, u1, v1, w1, iP, iQ, iR, iU, iV, iW, ?_, ?_, ?_, ?_⟩
  · show (setV (cancelBV (cancelBV s c (findV s c).1.owner).1 a (findV s a).1.owner).1 1 m).1.live = (cancelBV (setV (cancelBV s a (findV s a).1.owner).1 1 m).1 c (findV s c).1.owner).1.live
    rw [w2, v2, u2, r2, q2, p2]
    exact without_comm hW.inv.ok.sorted c a
  · show (setV (cancelBV (cancelBV s c (findV s c).1.owner).1 a (findV s a).1.owner).1 1 m).1.index = (cancelBV (setV (cancelBV s a (findV s a).1.owner).1 1 m).1 c (findV s c).1.owner).1.index
    rw [w3, v3, u3, r3, q3, p3]
  · show modeV (setV (cancelBV (cancelBV s c (findV s c).1.owner).1 a (findV s a).1.owner).1 1 m).1 1 = modeV (cancelBV (setV (cancelBV s a (findV s a).1.owner).1 1 m).1 c (findV s c).1.owner).1 1
    unfold modeV
    rw [w6, v6, u6, r6, q6, p6, w5, v5, u5, r5, q5, p5]
  · show (cancelBV (setV (cancelBV s a (findV s a).1.owner).1 1 m).1 c (findV s c).1.owner).1.live.length + 2 = s.live.length
    rw [r2, q2, p2]
    have h1 := without_one hW.inv.ok.sorted (k := a) (by rw [ga])
    have h2 := without_one (sorted_without hW.inv.ok.sorted a) (k := c) (by rw [get_without hW.inv.ok.sorted hne, gc])
    omega
end Go.Proofs.Ytnanihffljpdbaa.Bk
