/- Contracts of layer 2: lists, with the functions of layer 2's laws as what writes and reads one element. -/
import Derived.Test.YtpofjeenednjcaaProg
import Derived.Below
import Derived.WalkKit
import Derived.KernelRfl
import Derived.RowKit3
import Derived.Deep.LoopGhost
import Derived.Deep.QuietTactic
import Derived.BigQuiet
import Derived.WideLaws
import Derived.Deep.DeepCutAuto
import Derived.Deep.CutBlock
import Derived.Lib.Hide
import Derived.Laws.BitsLemmas
import Derived.Laws.Bits64
import Derived.Laws.BitsAllLaws
import Derived.IntWalk
import Derived.Outline
import Derived.WalkSpells
import Derived.Test.YtpofjeenednjcaaMem
import Derived.Test.YtpofjeenednjcaaPk9
namespace Go.Proofs.Ytpofjeenednjcaa.Pk
open Go.RowKit Go.Proofs.Ytpofjeenednjcaa.Mem

theorem numberC (b : Nat) (n : Int) (v : Value) (l : List Nat) (w : World) (hll : l.length ≤ 1099511627776) (ho : OutAt w b v l) :
    Calls Try.prog 38 #[.pointer (some ⟨b, 0, none⟩), .int .i64 n] w fun e w' => e = .returned (.bool (encN 1 n).2) ∧ ∃ v', OutAt w' b v' (l ++ (encN 1 n).1) ∧ Goes w v v' ∧ Off (foot b v) w w' := by
  have hk := outNum_enc b 1 n w.heap.size v l (w.alloc (.cells #[.int .i64 n] 3)) hll (ho.off ((Off.refl [] w).alloc _) (by simp) (by simp)) (blk_new _ _ _) (fun h => Nat.lt_irrefl _ (out_lt ho _ h))
  have HK := Lib.hid hk
  clear hk
  go_enter Try.func38, Try.ntmps38
  go_wp2_with (go_at_call 23; refine HK.out.mono ?_; rintro e w1 ⟨rfl, v', h1, h2, h3⟩)
  go_ret
  exact ⟨rfl, v', h1, h2.of_alloc, ((Off.refl _ w).alloc _).trans h3 (fun i _ hi => hi)⟩
theorem readC (b : Nat) (s : ByteArray) (bad : Bool) (w : World) (h : InAt w b s bad) :
    Calls Try.prog 40 #[.pointer (some ⟨b, 0, none⟩)] w fun e w' => e = .returned (.int .i64 ((inNumV s bad 1).1 : Nat)) ∧ InAt w' b (inNumV s bad 1).2.1 (inNumV s bad 1).2.2 ∧ Off [b] w w' := by
  go_enter Try.func40, Try.ntmps40
  go_wp2_with (go_at_call 29; refine (inNum b s bad _ 1 h).mono ?_; rintro e w1 ⟨rfl, h1, h2⟩)
  go_ret
  exact ⟨rfl, h1, h2⟩
theorem list_nil (vs : Value) (a : Option Addr) (n c : Nat) (hv : vs = .slice a n c) (fv : Value) (w : World) :
    Calls Try.prog 37 #[.pointer none, vs, fv] w fun e w' => e = .returned (.bool false) ∧ w = w' := by
  subst hv
  go_enter Try.func37, Try.ntmps37
  go_wp2
  go_ret
  exact ⟨rfl, rfl⟩
theorem eq_func (f : FuncId) (w : World) : (binOp .eql 63 (.func (.func f) #[] #[]) .nilFunc).run Try.prog w = .ok (.bool false) w := by
  first
    | rfl
    | kernel_rfl
    | (simp [binOp]; done)
    | (unfold binOp; simp; done)
    | (go_simp; done)
/-- a list of numbers of one byte each -/
def enc1 (ns : List Int) : List Nat := (ns.map fun n => (encN 1 n).1).flatten
def encL (ns : List Int) : List Nat := beB 2 ns.length ++ enc1 ns
def listV (ns : List Int) : List Nat × Bool := if (ns.all fun n => (encN 1 n).2) then (encL ns, true) else ([], false)
theorem listV_yes (ns : List Int) (h : (ns.all fun n => (encN 1 n).2) = true) : listV ns = (encL ns, true) := by unfold listV; rw [if_pos h]
theorem listV_no (ns : List Int) (h : (ns.all fun n => (encN 1 n).2) = false) : listV ns = ([], false) := by unfold listV; rw [h]; rfl
theorem enc1_snoc (ns : List Int) (n : Int) : enc1 (ns ++ [n]) = enc1 ns ++ (encN 1 n).1 := by simp [enc1]
theorem enc1_len : ∀ ns : List Int, (enc1 ns).length ≤ 8 * ns.length
  | [] => by simp [enc1]
  | n :: ns => by
    have := enc1_len ns
    have := encN_len 1 n
    simp only [enc1, List.map_cons, List.flatten_cons, List.length_append, List.length_cons] at *
    omega
theorem owns_cut {w : World} {e : TypeId} {g n cap : Nat} {xs : List Value} (h : w.ownsRow 0 e 1 (.slice (some ⟨g, 0, none⟩) n cap) n xs) (m : Nat) (hm : m ≤ n) : w.ownsRow 0 e 1 (.slice (some ⟨g, 0, none⟩) m cap) m (xs.take m) := by
  obtain ⟨h1, h2⟩ := h
  rcases h2 with ⟨h2, _⟩ | ⟨g', cap', cur, hv, hb, hh, hn, hc, hs, ht⟩
  · cases h2
  · injection hv with h3 _ h4
    injection h3 with h3
    injection h3 with h3 _ _
    subst h3
    subst h4
    refine ⟨by rw [List.length_take]; omega, .inr ⟨g, cap, cur, rfl, hb, hh, by omega, hc, hs, ?_⟩⟩
    rw [← ht, List.take_take]
    congr 1
    omega
theorem out_cut {w : World} {b : Nat} {a : Option Addr} {n cap : Nat} {l m : List Nat} (h : OutAt w b (.slice a n cap) (l ++ m)) (hm : 0 < m.length) :
    ∃ g, a = some ⟨g, 0, none⟩ ∧ l.length ≤ cap ∧ OutAt (w.setCell ⟨b, 0, none⟩ (.slice a l.length cap)) b (.slice a l.length cap) l := by
  have ho := h.owns
  rcases ho.2 with ⟨_, h0⟩ | ⟨g, c, cur, hv, _, hh, hn, _⟩
  · rw [List.length_append] at h0
    omega
  · injection hv with h1 h2 h3
    subst h1
    subst h2
    subst h3
    rw [List.length_append] at hn
    have hgb : g ≠ b := fun e => h.apart (by rw [← e]; rfl)
    have hc := owns_cut ho l.length (by rw [List.length_append]; omega)
    rw [bytesL_append, List.take_left' (bytesL_length l)] at hc
    refine ⟨g, rfl, by omega, ⟨Blk.set h.blk 0 _, ?_, h.apart, fun c hc => h.small c (by simp [hc])⟩⟩
    exact (((Off.refl [b] w).setCell ⟨b, 0, none⟩ _ (by simp)).owns hc (by intro k hk; obtain rfl : g = k := Option.some.inj hk; simpa using hgb))
set_option maxRecDepth 20000 in
set_option maxHeartbeats 1600000 in
theorem list_yes (b : Nat) (a : Option Addr) (ns : List Int) (c : Nat) (v : Value) (l : List Nat) (w : World) (hl : ns.length ≤ 65535) (hll : l.length ≤ 1000000) (ho : OutAt w b v l)
    (hr : ∀ (i : Nat) (h : i < ns.length), ∃ x, a = some x ∧ x.block ∉ foot b v ∧ w.cell? (x.add i) = some (.int .i64 ns[i])) :
    Calls Try.prog 37 #[.pointer (some ⟨b, 0, none⟩), .slice a ns.length c, .func (.func 38) #[] #[]] w fun e w' => e = .returned (.bool (listV ns).2) ∧
      ∃ v', OutAt w' b v' (l ++ (listV ns).1) ∧ Goes w v v' ∧ Off (foot b v) w w' := by
  have heq := eq_func 38
  have hc0 := ho.blk.cell 0 v rfl
  obtain ⟨va, vc, rfl⟩ := own_form ho.owns
  have hk := outNum_enc b 2 (ns.length : Int) w.heap.size _ l (w.alloc (.cells #[.int .i64 (ns.length : Int)] 3)) (by omega) (ho.off ((Off.refl [] w).alloc _) (by simp) (by simp)) (blk_new _ _ _) (fun h => Nat.lt_irrefl _ (out_lt ho _ h))
  have h2 : encN 2 (ns.length : Int) = (beB 2 ns.length, true) := by
    unfold encN
    rw [if_pos]
    · rfl
    · unfold fitsV wide
      simp
      omega
  rw [h2] at hk
  have HK := Lib.hid hk
  have HO := Lib.hid ho
  clear hk h2 ho
  go_enter Try.func37, Try.ntmps37
  go_wp2_with (go_at_call 23; refine HK.out.mono ?_; rintro e w1 ⟨rfl, v1, h1, hg1, hf1⟩)
  have hgo : Goes w (.slice va l.length vc) v1 := hg1.of_alloc
  have hof : Off (foot b (.slice va l.length vc)) w w1 := ((Off.refl _ w).alloc _).trans hf1 (fun i _ hi => hi)
  have hfn : ∀ k ∈ foot b (Value.slice va l.length vc), k < w.heap.size := out_lt HO.out
  clear HK HO hc0 hg1 hf1
  generalize hF : foot b (Value.slice va l.length vc) = F at *
  go_loopw [33] (fun vi wr => ∃ (k : Nat) (v2 : Value), k ≤ ns.length ∧ vi = .int .i64 k ∧ OutAt wr b v2 (l ++ (beB 2 ns.length ++ enc1 (ns.take k))) ∧ Hid ((ns.take k).all (fun n => (encN 1 n).2) = true) ∧ Goes w (.slice va l.length vc) v2 ∧ Off F w wr) (fun vi _ => ns.length - (intOf vi).toNat)
  case atStart => exact ⟨0, v1, Nat.zero_le _, rfl, by simpa [enc1] using h1, Lib.hid rfl, hgo, hof⟩
  case round =>
    obtain ⟨k, v2, hk, rfl, hO, hA, hg, hf⟩ := hrel
    clear h1 hgo hof
    by_cases hlt : k < ns.length
    · obtain ⟨x, rfl, hxf, hx0⟩ := hr k hlt
      have hxk : wr.cell? (x.add k) = some (.int .i64 ns[k]) := by
        rw [← hx0]
        exact hf.cell (lt_of_cell hx0) (by rw [add_block]; exact hxf)
      clear hr hx0
      have hen := enc1_len (ns.take k)
      rw [List.length_take] at hen
      have hk2 := numberC b ns[k] v2 _ wr (by simp [beB_length]; omega) hO
      have HKK := Lib.hid hk2
      have hns : ns.take (k + 1) = ns.take k ++ [ns[k]] := List.take_succ_eq_append_getElem hlt
      have HNS := Lib.hid hns
      have HALL := Lib.hid (show (encN 1 ns[k]).2 = false → (ns.all fun n => (encN 1 n).2) = false from fun h => by
        rw [← Bool.not_eq_true, List.all_eq_true]
        intro h'
        have := h' _ (List.getElem_mem hlt)
        rw [h] at this
        cases this)
      have HE0 := Lib.hid (show (encN 1 ns[k]).2 = false → (encN 1 ns[k]).1 = [] from fun h => by
        unfold encN at h ⊢
        split at h
        · cases h
        · rename_i hc
          rw [if_neg hc])
      clear hk2 hns
      have hO' := hO
      clear hO
      generalize hnk : ns[k] = n at *
      cases hb : (encN 1 n).2
      · have hk3 := HKK.out
        rw [hb, HE0.out hb, List.append_nil] at hk3
        have hall := HALL.out hb
        have HK3 := Lib.hid hk3
        have HALL2 := Lib.hid hall
        clear hk3 hall hb HKK HE0 HALL HNS hA
        generalize hX : beB 2 ns.length ++ enc1 (ns.take k) = X at *
        have hXl : 0 < X.length := by rw [← hX]; simp [beB_length]; omega
        have HX := Lib.hid hX
        clear hX hO'
        go_wp2_with (go_at_call 38; refine HK3.out.mono ?_; rintro e w2 ⟨rfl, v3, hO3, hg3, hf3⟩; obtain ⟨a3, c3, rfl⟩ := own_form hO3.owns; obtain ⟨g, rfl, hcap, hcut⟩ := out_cut hO3 hXl; have hc0 := hO3.blk.cell 0 _ rfl; have hfz := hO3.blk.free 0; have hOL := hO3.owns.2; have hHid := Lib.hid hcut; clear hcut hO3 hOL; generalize hLN : (l ++ X).length = LN at *; have hcapI : (l.length : Int) ≤ (c3 : Int) := (by omega))
        go_ret
        rw [listV_no ns HALL2.out, List.append_nil]
        refine ⟨rfl, _, hHid.out, ?_, ?_⟩
        · exact Goes.trans (v1 := .slice (some ⟨g, 0, none⟩) LN c3) (hg.trans hg3 hf.size) (.inl rfl) (Nat.le_refl _) (w1 := w)
        · rw [hF]
          have hgr := Grow.foot (b := b) hg
          rw [hF] at hgr
          have hbF : b ∈ F := by rw [← hF]; simp [foot]
          exact (hf.trans hf3 (fun i hi hm => (hgr i hm).resolve_right (by omega))).setCell _ _ (.inl hbF)
      · have hk3 := HKK.out
        rw [hb, List.append_assoc, List.append_assoc, ← enc1_snoc] at hk3
        rw [← HNS.out] at hk3
        have hk4 := Lib.hid hk3
        have hA2 : (ns.take (k + 1)).all (fun n => (encN 1 n).2) = true := by
          rw [HNS.out, List.all_append, hA.out]
          simp [hb]
        have HA2 := Lib.hid hA2
        clear hk3 hA2 hb HKK HE0 HALL HNS hA hO'
        go_wp2_with (go_at_call 38; refine hk4.out.mono ?_; rintro e w2 ⟨rfl, v3, hO3, hg3, hf3⟩)
        go_roundw
        case rel =>
          have hgr := Grow.foot (b := b) hg
          rw [hF] at hgr
          exact ⟨k + 1, v3, by omega, by go_num, hO3, HA2, hg.trans hg3 hf.size, hf.trans hf3 (fun i hi hm => (hgr i hm).resolve_right (by omega))⟩
        case measure => simp [intOf] <;> omega
    · obtain rfl : k = ns.length := by omega
      rw [List.take_length] at hO
      have hA' := hA.out
      rw [List.take_length] at hA'
      go_wp2
      go_ret
      rw [listV_yes ns hA', hF]
      exact ⟨rfl, v2, hO, hg, hf⟩
end Go.Proofs.Ytpofjeenednjcaa.Pk
