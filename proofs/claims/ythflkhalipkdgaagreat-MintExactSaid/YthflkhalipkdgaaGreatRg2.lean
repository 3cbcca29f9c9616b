/- Layer 14: the reference: bytes. -/
import Derived.Test.YthflkhalipkdgaaGreatProg
import Derived.Below
import Derived.WalkKit
import Derived.KernelRfl
import Derived.RowKit3
import Derived.Deep.LoopGhost
import Derived.Deep.QuietTactic
import Derived.BigQuiet
import Derived.WideLaws
import Derived.Deep.DeepCutAuto
import Derived.Deep.CutBlock
import Derived.Lib.Hide
import Derived.Laws.BitsLemmas
import Derived.Laws.Bits64
import Derived.Laws.BitsAllLaws
import Derived.IntWalk
import Derived.Outline
import Derived.WalkSpells
import Derived.Test.YthflkhalipkdgaaGreatGA
import Derived.Test.YthflkhalipkdgaaGreatRg1
import Derived.Test.YthflkhalipkdgaaGreatGM
namespace Go.Proofs.YthflkhalipkdgaaGreat.Ms
set_option maxRecDepth 20000
open Go.RowKit Go.Proofs.YthflkhalipkdgaaGreat.Mem Go.Proofs.YthflkhalipkdgaaGreat.Pk Go.Proofs.YthflkhalipkdgaaGreat.Ca Go.Proofs.YthflkhalipkdgaaGreat.Reg Go.Proofs.YthflkhalipkdgaaGreat.Wk
set_option linter.unusedVariables false
set_option linter.unusedSimpArgs false

theorem size_in (k : Int) : ∀ x ∈ sizeL k, x = 0 ∨ x = 1 ∨ x = 4 := by
  unfold sizeL
  cases k == 1 <;> cases k == 2 <;> cases k == 3 <;> cases k == 7 <;> cases k == 9 <;> cases k == 4 <;> cases k == 5 <;> cases k == 6 <;> cases k == 8 <;> cases k == 10 <;> simp only [cond_true, cond_false] <;> decide
theorem size_get (k : Int) (i : Nat) : (sizeL k).getD i 0 = 0 ∨ (sizeL k).getD i 0 = 1 ∨ (sizeL k).getD i 0 = 4 := by
  rw [List.getD_eq_getElem?_getD]
  cases h : (sizeL k)[i]? with
  | none => exact .inl rfl
  | some x => exact size_in k x (List.mem_of_getElem? h)
theorem is_kind {k : Int} (h : sizeIs k = true) : 1 ≤ k ∧ k ≤ 10 := by
  unfold sizeIs at h
  have e : k = 1 ∨ k = 2 ∨ k = 3 ∨ k = 7 ∨ k = 9 ∨ k = 4 ∨ k = 5 ∨ k = 6 ∨ k = 8 ∨ k = 10 := by
    by_cases h1 : k = 1 <;> by_cases h2 : k = 2 <;> by_cases h3 : k = 3 <;> by_cases h4 : k = 7 <;> by_cases h5 : k = 9 <;> by_cases h6 : k = 4 <;> by_cases h7 : k = 5 <;> by_cases h8 : k = 6 <;> by_cases h9 : k = 8 <;> by_cases h10 : k = 10 <;> simp_all
  omega
theorem head_of {r : List Int} (h : goodR r = true) : headR r = false ∧ okTo r 14 = true ∧ whoR r = false ∧ filR r = true := by
  unfold goodR at h
  cases h1 : headR r <;> rw [h1] at h
  · cases h2 : okTo r 14 <;> rw [h2] at h
    · cases h
    · cases h3 : whoR r <;> rw [h3] at h
      · exact ⟨rfl, rfl, rfl, h⟩
      · cases h
  · cases h
theorem ok_at {r : List Int} (h : okTo r 14 = true) {k : Nat} (h2 : 2 ≤ k) (hk : k < 16) : okR (szR r k) (r.getD k 0) = true := by
  have h1 := okTo_le (k := k - 2 + 1) (by omega) h
  unfold okTo at h1
  rw [show k - 2 + 2 = k by omega, Bool.and_eq_true] at h1
  exact h1.2
theorem num_good {r : List Int} (hg : goodR r = true) {i : Nat} (hi : i < 16) (hs : 0 < szR r i) : (szR r i = 1 ∨ szR r i = 4) ∧ 0 ≤ r.getD i 0 ∧ r.getD i 0 < (256 : Int) ^ (szR r i).toNat := by
  obtain ⟨h1, h2, _, _⟩ := head_of hg
  have hz : szR r i = 1 ∨ szR r i = 4 := by
    rcases size_get (r.getD 0 0) i with e | e | e
    · unfold szR at hs; omega
    · exact .inl e
    · exact .inr e
  refine ⟨hz, ?_⟩
  unfold headR at h1
  simp only [Bool.or_eq_false_iff, Bool.not_eq_false', decide_eq_false_iff_not] at h1
  obtain ⟨⟨g1, g2⟩, g3⟩ := h1
  rcases Nat.lt_or_ge i 2 with h | h
  · have : i = 0 ∨ i = 1 := by omega
    rcases this with rfl | rfl
    · have h5 := is_kind g1
      have e : szR r 0 = 1 := by
        unfold szR sizeL
        cases r.getD 0 0 == 1 <;> cases r.getD 0 0 == 2 <;> cases r.getD 0 0 == 3 <;> cases r.getD 0 0 == 7 <;> cases r.getD 0 0 == 9 <;> cases r.getD 0 0 == 4 <;> cases r.getD 0 0 == 5 <;> cases r.getD 0 0 == 6 <;> cases r.getD 0 0 == 8 <;> cases r.getD 0 0 == 10 <;> rfl
      rw [e]
      simp only [Int.reduceToNat, Int.reducePow]
      omega
    · have e : szR r 1 = 4 := by
        unfold szR sizeL
        cases r.getD 0 0 == 1 <;> cases r.getD 0 0 == 2 <;> cases r.getD 0 0 == 3 <;> cases r.getD 0 0 == 7 <;> cases r.getD 0 0 == 9 <;> cases r.getD 0 0 == 4 <;> cases r.getD 0 0 == 5 <;> cases r.getD 0 0 == 6 <;> cases r.getD 0 0 == 8 <;> cases r.getD 0 0 == 10 <;> rfl
      rw [e]
      simp only [Int.reduceToNat, Int.reducePow]
      omega
  · have h5 := ok_at h2 h hi
    unfold okR at h5
    generalize r.getD i 0 = n at h5 ⊢
    rcases hz with e | e
    · rw [e] at h5 ⊢
      simp at h5
      simp only [Int.reduceToNat, Int.reducePow]
      omega
    · rw [e] at h5 ⊢
      simp at h5
      simp only [Int.reduceToNat, Int.reducePow]
      omega
theorem num_small {r : List Int} (hg : goodR r = true) {i : Nat} (hi : i < 16) (hs : decide (0 < (sizeL (r.getD 0 0)).getD i 0) = true) : r.getD i 0 < 9223372036854775808 := by
  obtain ⟨h1, h2, h3⟩ := num_good hg hi (of_decide_eq_true hs)
  rcases h1 with e | e <;> rw [e] at h3 <;> simp only [Int.reduceToNat, Int.reducePow] at h3 <;> omega
def bytesR (r : List Int) : Nat → List Nat
  | 0 => []
  | i + 1 => bytesR r i ++ (bif decide (0 < szR r i) then beB (szR r i).toNat (r.getD i 0).toNat else [])
def refB (r : List Int) : List Nat := bytesR r 16
def encR (r : List Int) : ByteArray := bif goodR r then str (refB r) else ⟨#[]⟩
theorem ref_str {r : List Int} (hg : goodR r = true) {i : Nat} (hi : i < 16) (hs : 0 < szR r i) : (refNumV (szR r i) (r.getD i 0)).1 = str (beB (szR r i).toNat (r.getD i 0).toNat) := by
  obtain ⟨h1, h2, _⟩ := num_good hg hi hs
  unfold refNumV
  rw [if_pos ⟨by rcases h1 with e | e <;> rw [e] <;> rfl, h2⟩]
theorem bytes_yes {r : List Int} (hg : goodR r = true) {i : Nat} (hi : i < 16) (hs : decide (0 < (sizeL (r.getD 0 0)).getD i 0) = true) : str (bytesR r i) ++ (refNumV ((sizeL (r.getD 0 0)).getD i 0) (r.getD i 0)).1 = str (bytesR r (i + 1)) := by
  have h := ref_str hg hi (of_decide_eq_true hs)
  have e : bytesR r (i + 1) = bytesR r i ++ (bif decide (0 < szR r i) then beB (szR r i).toNat (r.getD i 0).toNat else []) := rfl
  unfold szR at h e
  rw [h, e, str_more, hs]
  rfl
theorem bytes_no {r : List Int} {i : Nat} (hs : decide (0 < (sizeL (r.getD 0 0)).getD i 0) = false) : str (bytesR r i) = str (bytesR r (i + 1)) := by
  rw [bytesR]
  unfold szR
  rw [hs]
  simp
theorem rn_size (w n : Int) : (refNumV w n).1.size ≤ 8 := by
  unfold refNumV
  split
  · rename_i h
    show (str _).size ≤ 8
    rw [str_size, beB_length]
    have := wide_cases h.1
    omega
  · exact Nat.zero_le _
theorem enc_no {r : List Int} (h : goodR r = false) : (⟨#[]⟩ : ByteArray) = encR r := by unfold encR; rw [h]; rfl
theorem enc_yes {r : List Int} (h : goodR r = true) : str (bytesR r 16) = encR r := by unfold encR refB; rw [h]; rfl
def numsQ (q : ReqV) : List Int := [q.kind, q.seq, q.who, q.role, q.token, q.key / 4294967296, q.key % 4294967296, q.call.kind, q.call.src, q.call.dst, q.call.car, q.id, q.car, q.mode, q.filter.kind, q.filter.n]
def formB (q : ReqV) : Bool := (((q.call.id == 0) && (q.call.state == 0)) && (q.call.owner == 0)) && (q.call.born == 0)
def tab_refEncC : Wk.Tab := []
theorem p_refEncC {ops : Array Oper} {rest : List Oper} {o : Oper} {w0 : World} {Q : Exit → Act → World → Prop} {S : List Nat} {R : List Res} {K K' : Wk.Env} {N : Nat} (h : Wk.stp tab_refEncC N ops K o = some K') (n : Wk.Wk N S w0 K' R (wpList Tryz.prog ops Q rest)) : Wk.Wk N S w0 K R (wpList Tryz.prog ops Q (o :: rest)) := Wk.wP (T := tab_refEncC) (by kernel_rfl) h n
set_option maxHeartbeats 4000000 in
set_option maxRecDepth 20000 in
theorem refEncC_r9 (r : List Int) (b1 : Nat) (hg : goodR r = true) (b4 : Nat) (i : Nat) (o : ByteArray) (hi : i ≤ 16) (hos : o.size ≤ 8 * i) (z2d : (i : Int) < 16) (y3d : 0 < (sizeL (r.getD 0 0)).getD i 0) (hps : decide (0 < (sizeL (r.getD 0 0)).getD i 0) = true) (hrs : (refNumV ((sizeL (r.getD 0 0)).getD i 0) (r.getD i 0)).1.size ≤ 8) (hrs2 : (refNumV ((sizeL (r[0]?.getD 0))[i]?.getD 0) (r[i]?.getD 0)).1.size ≤ 8) {wa wb : World} (H : Hid (Hp [] wa wb [rB b4 36 [.int .i64 ((sizeL (r.getD 0 0)).getD 0 0), .int .i64 ((sizeL (r.getD 0 0)).getD 1 0), .int .i64 ((sizeL (r.getD 0 0)).getD 2 0), .int .i64 ((sizeL (r.getD 0 0)).getD 3 0), .int .i64 ((sizeL (r.getD 0 0)).getD 4 0), .int .i64 ((sizeL (r.getD 0 0)).getD 5 0), .int .i64 ((sizeL (r.getD 0 0)).getD 6 0), .int .i64 ((sizeL (r.getD 0 0)).getD 7 0), .int .i64 ((sizeL (r.getD 0 0)).getD 8 0), .int .i64 ((sizeL (r.getD 0 0)).getD 9 0), .int .i64 ((sizeL (r.getD 0 0)).getD 10 0), .int .i64 ((sizeL (r.getD 0 0)).getD 11 0), .int .i64 ((sizeL (r.getD 0 0)).getD 12 0), .int .i64 ((sizeL (r.getD 0 0)).getD 13 0), .int .i64 ((sizeL (r.getD 0 0)).getD 14 0), .int .i64 ((sizeL (r.getD 0 0)).getD 15 0)], rB b1 37 [.int .i64 (r.getD 0 0), .int .i64 (r.getD 1 0), .int .i64 (r.getD 2 0), .int .i64 (r.getD 3 0), .int .i64 (r.getD 4 0), .int .i64 (r.getD 5 0), .int .i64 (r.getD 6 0), .int .i64 (r.getD 7 0), .int .i64 (r.getD 8 0), .int .i64 (r.getD 9 0), .int .i64 (r.getD 10 0), .int .i64 (r.getD 11 0), .int .i64 (r.getD 12 0), .int .i64 (r.getD 13 0), .int .i64 (r.getD 14 0), .int .i64 (r.getD 15 0)]])) (ac0 : Act) (hz : ac0.tmps.size = 41) (so1 : ac0.eval (.tmp 1) = .pointer (some ⟨b1, 0, none⟩)) (so4 : ac0.eval (.tmp 4) = .pointer (some ⟨b4, 0, none⟩)) (so7 : ac0.eval (.tmp 7) = .int .i64 i) {QR : Exit → Act → World → Prop} (hfin : ∀ (ac1 : Act) (wz : World), ac1.tmps.size = 41 → ac1.defers = ac0.defers → (∀ t, ([8, 9, 27, 28, 29, 30, 31, 32, 33, 34, 35, 36] : List Nat).contains t = false → ac1.eval (.tmp t) = ac0.eval (.tmp t)) → ac1.eval (.tmp 8) = .string ((refNumV ((sizeL (r.getD 0 0)).getD i 0) (r.getD i 0)).1) →  Hid (Hp [] wa wz [rB b4 36 [.int .i64 ((sizeL (r.getD 0 0)).getD 0 0), .int .i64 ((sizeL (r.getD 0 0)).getD 1 0), .int .i64 ((sizeL (r.getD 0 0)).getD 2 0), .int .i64 ((sizeL (r.getD 0 0)).getD 3 0), .int .i64 ((sizeL (r.getD 0 0)).getD 4 0), .int .i64 ((sizeL (r.getD 0 0)).getD 5 0), .int .i64 ((sizeL (r.getD 0 0)).getD 6 0), .int .i64 ((sizeL (r.getD 0 0)).getD 7 0), .int .i64 ((sizeL (r.getD 0 0)).getD 8 0), .int .i64 ((sizeL (r.getD 0 0)).getD 9 0), .int .i64 ((sizeL (r.getD 0 0)).getD 10 0), .int .i64 ((sizeL (r.getD 0 0)).getD 11 0), .int .i64 ((sizeL (r.getD 0 0)).getD 12 0), .int .i64 ((sizeL (r.getD 0 0)).getD 13 0), .int .i64 ((sizeL (r.getD 0 0)).getD 14 0), .int .i64 ((sizeL (r.getD 0 0)).getD 15 0)], rB b1 37 [.int .i64 (r.getD 0 0), .int .i64 (r.getD 1 0), .int .i64 (r.getD 2 0), .int .i64 (r.getD 3 0), .int .i64 (r.getD 4 0), .int .i64 (r.getD 5 0), .int .i64 (r.getD 6 0), .int .i64 (r.getD 7 0), .int .i64 (r.getD 8 0), .int .i64 (r.getD 9 0), .int .i64 (r.getD 10 0), .int .i64 (r.getD 11 0), .int .i64 (r.getD 12 0), .int .i64 (r.getD 13 0), .int .i64 (r.getD 14 0), .int .i64 (r.getD 15 0)]]) → QR .normal ac1 wz) : (regAt Tryz.f40 9).wp Tryz.prog QR ac0 wb := by
  refine wp_region_st mixedP ⟨[0, 1, 2, 0, 1, 2, 3, 4, 5, 5, 6, 7], by kernel_rfl⟩ [[], [0], [0, 1], [], [3], [3, 4], [0, 1, 2, 3, 4, 5], [0, 1, 2, 3, 4, 5, 6], [0, 1, 2, 3, 4, 5, 6, 7], [0, 1, 2, 3, 4, 5, 6, 7], [0, 1, 2, 3, 4, 5, 6, 7, 8], [0, 1, 2, 3, 4, 5, 6, 7, 8, 9, 10]] (by kernel_rfl) (by kernel_rfl) 41 hz (by kernel_rfl) (fun (xx : Unit) jx => nth [.int .i64 i, .pointer (some ⟨b4, i, none⟩), .int .i64 ((sizeL (r.getD 0 0)).getD i 0), .int .i64 i, .pointer (some ⟨b1, i, none⟩), .int .i64 (r.getD i 0), .tuple #[.string ((refNumV ((sizeL (r.getD 0 0)).getD i 0) (r.getD i 0)).1), .bool ((refNumV ((sizeL (r.getD 0 0)).getD i 0) (r.getD i 0)).2)], .tuple #[.string ((refNumV ((sizeL (r.getD 0 0)).getD i 0) (r.getD i 0)).1), .bool ((refNumV ((sizeL (r.getD 0 0)).getD i 0) (r.getD i 0)).2)], .string ((refNumV ((sizeL (r.getD 0 0)).getD i 0) (r.getD i 0)).1), .bool ((refNumV ((sizeL (r.getD 0 0)).getD i 0) (r.getD i 0)).2), .string ((refNumV ((sizeL (r.getD 0 0)).getD i 0) (r.getD i 0)).1), .bool ((refNumV ((sizeL (r.getD 0 0)).getD i 0) (r.getD i 0)).2)] jx) (fun (LL : Nat → Bool) (xx : Unit) ww => Hp [] wa ww [rB b4 36 [.int .i64 ((sizeL (r.getD 0 0)).getD 0 0), .int .i64 ((sizeL (r.getD 0 0)).getD 1 0), .int .i64 ((sizeL (r.getD 0 0)).getD 2 0), .int .i64 ((sizeL (r.getD 0 0)).getD 3 0), .int .i64 ((sizeL (r.getD 0 0)).getD 4 0), .int .i64 ((sizeL (r.getD 0 0)).getD 5 0), .int .i64 ((sizeL (r.getD 0 0)).getD 6 0), .int .i64 ((sizeL (r.getD 0 0)).getD 7 0), .int .i64 ((sizeL (r.getD 0 0)).getD 8 0), .int .i64 ((sizeL (r.getD 0 0)).getD 9 0), .int .i64 ((sizeL (r.getD 0 0)).getD 10 0), .int .i64 ((sizeL (r.getD 0 0)).getD 11 0), .int .i64 ((sizeL (r.getD 0 0)).getD 12 0), .int .i64 ((sizeL (r.getD 0 0)).getD 13 0), .int .i64 ((sizeL (r.getD 0 0)).getD 14 0), .int .i64 ((sizeL (r.getD 0 0)).getD 15 0)], rB b1 37 [.int .i64 (r.getD 0 0), .int .i64 (r.getD 1 0), .int .i64 (r.getD 2 0), .int .i64 (r.getD 3 0), .int .i64 (r.getD 4 0), .int .i64 (r.getD 5 0), .int .i64 (r.getD 6 0), .int .i64 (r.getD 7 0), .int .i64 (r.getD 8 0), .int .i64 (r.getD 9 0), .int .i64 (r.getD 10 0), .int .i64 (r.getD 11 0), .int .i64 (r.getD 12 0), .int .i64 (r.getD 13 0), .int .i64 (r.getD 14 0), .int .i64 (r.getD 15 0)]]) () H.out.drew ?_ (steps_al ?_) ?_ ?_
  · exact fun _ _ _ _ _ h => h
  · refine al_cons ?_ (al_cons ?_ (al_cons ?_ (al_cons ?_ (al_cons ?_ (al_cons ?_ (al_cons ?_ (al_cons ?_ (al_cons ?_ (al_cons ?_ (al_cons ?_ (al_cons ?_ (al_nil))))))))))))
    · intro LL xx ac wc sg hst hwant QQ hgo
      exact op_val hwant hgo hst _ (exec_move rfl ((sg.free 7 (by kernel_rfl)).trans so7)) rfl
    · intro LL xx ac wc sg hst hwant QQ hgo
      have se4 : ac.eval (.tmp 4) = _ := ((sg.free 4 (by kernel_rfl)).trans so4)
      have sg4 := gt_of se4
      have se28 : ac.eval (.tmp 28) = _ := (sg.slot 0 (sg.anc 0 rfl))
      have sg28 := gt_of se28
      (try simp only [nth] at se4 sg4 se28 sg28)
      exact op_val hwant hgo hst _ (by simp only [execOp, nth]; go_simp <;> omega) rfl
    · intro LL xx ac wc sg hst hwant QQ hgo
      have H := Lib.hid hst
      refine hpA_load1 tyint H rfl (sg.slot 1 (sg.anc 1 rfl)) hwant (by (repeat (first | exact List.Mem.head _ | apply List.Mem.tail))) (get16 (sizeL (r.getD 0 0)) (by omega)) ?_
      exact hgo _ () _ (fun _ _ => rfl) rfl hst
    · intro LL xx ac wc sg hst hwant QQ hgo
      exact op_val hwant hgo hst _ (exec_move rfl ((sg.free 7 (by kernel_rfl)).trans so7)) rfl
    · intro LL xx ac wc sg hst hwant QQ hgo
      have se1 : ac.eval (.tmp 1) = _ := ((sg.free 1 (by kernel_rfl)).trans so1)
      have sg1 := gt_of se1
      have se31 : ac.eval (.tmp 31) = _ := (sg.slot 3 (sg.anc 3 rfl))
      have sg31 := gt_of se31
      (try simp only [nth] at se1 sg1 se31 sg31)
      exact op_val hwant hgo hst _ (by simp only [execOp, nth]; go_simp <;> omega) rfl
    · intro LL xx ac wc sg hst hwant QQ hgo
      have H := Lib.hid hst
      refine hpA_load1 tyint H rfl (sg.slot 4 (sg.anc 4 rfl)) hwant (by (repeat (first | exact List.Mem.head _ | apply List.Mem.tail))) (get16 r (by omega)) ?_
      exact hgo _ () _ (fun _ _ => rfl) rfl hst
    · intro LL xx ac wc sg hst hwant QQ hgo
      have se30 : ac.eval (.tmp 30) = _ := (sg.slot 2 (sg.anc 2 rfl))
      have sg30 := gt_of se30
      have se33 : ac.eval (.tmp 33) = _ := (sg.slot 5 (sg.anc 5 rfl))
      have sg33 := gt_of se33
      (try simp only [nth] at se30 sg30 se33 sg33)
      refine op_call hwant hgo 70 #[.int .i64 ((sizeL (r.getD 0 0)).getD i 0), .int .i64 (r.getD i 0)] (by simp only [execOp]; go_simp) (refNum ((sizeL (r.getD 0 0)).getD i 0) (r.getD i 0) wc (num_small hg (by omega) hps)) ?_
      rintro er wd ⟨rfl, hof⟩
      exact ⟨_, (), rfl, fun _ _ => rfl, rfl, Hp.quiet hst hof⟩
    · intro LL xx ac wc sg hst hwant QQ hgo
      exact op_val hwant hgo hst _ (exec_move rfl (sg.slot 6 (sg.anc 6 rfl))) rfl
    · intro LL xx ac wc sg hst hwant QQ hgo
      have se27 : ac.eval (.tmp 27) = _ := (sg.slot 7 (sg.anc 7 rfl))
      have sg27 := gt_of se27
      (try simp only [nth] at se27 sg27)
      exact op_val hwant hgo hst _ (by simp only [execOp, nth]; go_simp <;> omega) rfl
    · intro LL xx ac wc sg hst hwant QQ hgo
      have se27 : ac.eval (.tmp 27) = _ := (sg.slot 7 (sg.anc 7 rfl))
      have sg27 := gt_of se27
      (try simp only [nth] at se27 sg27)
      exact op_val hwant hgo hst _ (by simp only [execOp, nth]; go_simp <;> omega) rfl
    · intro LL xx ac wc sg hst hwant QQ hgo
      exact op_val hwant hgo hst _ (exec_assign rfl (sg.slot 8 (sg.anc 8 rfl))) rfl
    · intro LL xx ac wc sg hst hwant QQ hgo
      exact op_val hwant hgo hst _ (exec_assign rfl (sg.slot 9 (sg.anc 9 rfl))) rfl
  · exact skips [] (by kernel_rfl) (fun _ h => by cases h)
  · intro xx ac1 wz hfr hsl hst
    exact hfin ac1 wz (hfr.size.trans hz) hfr.defers (fr_keep hfr [8, 9, 27, 28, 29, 30, 31, 32, 33, 34, 35, 36] (by kernel_rfl)) (hsl 10 (by decide)) (Lib.hid hst)
set_option maxHeartbeats 16000000 in
set_option maxRecDepth 20000 in
theorem refEncC (r : List Int) (w : World) : Calls Tryz.prog 40 #[.agg #[.int .i64 (r.getD 0 0), .int .i64 (r.getD 1 0), .int .i64 (r.getD 2 0), .int .i64 (r.getD 3 0), .int .i64 (r.getD 4 0), .int .i64 (r.getD 5 0), .int .i64 (r.getD 6 0), .int .i64 (r.getD 7 0), .int .i64 (r.getD 8 0), .int .i64 (r.getD 9 0), .int .i64 (r.getD 10 0), .int .i64 (r.getD 11 0), .int .i64 (r.getD 12 0), .int .i64 (r.getD 13 0), .int .i64 (r.getD 14 0), .int .i64 (r.getD 15 0)]] w fun e w' => e = .returned (.tuple #[.string (encR r), .bool (goodR r)]) ∧ Off [] w w' := by
 have H := Lib.hid (Hp.start [] w)
 refine wStart (args := [.agg #[.int .i64 (r.getD 0 0), .int .i64 (r.getD 1 0), .int .i64 (r.getD 2 0), .int .i64 (r.getD 3 0), .int .i64 (r.getD 4 0), .int .i64 (r.getD 5 0), .int .i64 (r.getD 6 0), .int .i64 (r.getD 7 0), .int .i64 (r.getD 8 0), .int .i64 (r.getD 9 0), .int .i64 (r.getD 10 0), .int .i64 (r.getD 11 0), .int .i64 (r.getD 12 0), .int .i64 (r.getD 13 0), .int .i64 (r.getD 14 0), .int .i64 (r.getD 15 0)]]) Tryz.func40 rfl rfl rfl H ?_
 clear H
 show Wk 41 _ _ [(0, .agg #[.int .i64 (r.getD 0 0), .int .i64 (r.getD 1 0), .int .i64 (r.getD 2 0), .int .i64 (r.getD 3 0), .int .i64 (r.getD 4 0), .int .i64 (r.getD 5 0), .int .i64 (r.getD 6 0), .int .i64 (r.getD 7 0), .int .i64 (r.getD 8 0), .int .i64 (r.getD 9 0), .int .i64 (r.getD 10 0), .int .i64 (r.getD 11 0), .int .i64 (r.getD 12 0), .int .i64 (r.getD 13 0), .int .i64 (r.getD 14 0), .int .i64 (r.getD 15 0)])] _ _
 refine wSeqK fun KK1 hK1 => ?_
 refine wReg ?_
 refine wBx rfl rfl rfl fun b1 => ?_
 iterate 2 refine p_refEncC rfl ?_
 refine wN ?_
 refine tN (wKK hK1 ?_)
 refine wSeqK fun KK2 hK2 => ?_
 refine wSeqK fun KK3 hK3 => ?_
 rcases Bool.eq_false_or_eq_true (goodR r) with y1 | y1
 · skip
   refine wReg ?_
   refine wLr rfl tyhoistwayref14_Request 0 rfl [.int .i64 (r.getD 0 0), .int .i64 (r.getD 1 0), .int .i64 (r.getD 2 0), .int .i64 (r.getD 3 0), .int .i64 (r.getD 4 0), .int .i64 (r.getD 5 0), .int .i64 (r.getD 6 0), .int .i64 (r.getD 7 0), .int .i64 (r.getD 8 0), .int .i64 (r.getD 9 0), .int .i64 (r.getD 10 0), .int .i64 (r.getD 11 0), .int .i64 (r.getD 12 0), .int .i64 (r.getD 13 0), .int .i64 (r.getD 14 0), .int .i64 (r.getD 15 0)] rfl rfl ?_
   refine wQ (l := [.agg #[.int .i64 (r.getD 0 0), .int .i64 (r.getD 1 0), .int .i64 (r.getD 2 0), .int .i64 (r.getD 3 0), .int .i64 (r.getD 4 0), .int .i64 (r.getD 5 0), .int .i64 (r.getD 6 0), .int .i64 (r.getD 7 0), .int .i64 (r.getD 8 0), .int .i64 (r.getD 9 0), .int .i64 (r.getD 10 0), .int .i64 (r.getD 11 0), .int .i64 (r.getD 12 0), .int .i64 (r.getD 13 0), .int .i64 (r.getD 14 0), .int .i64 (r.getD 15 0)]]) Tryz.func68 rfl (by kernel_rfl) (.bool true) (fun wc H => by have h := goodC r wc; rw [y1] at h; exact h) rfl rfl rfl rfl ?_
   refine p_refEncC rfl ?_
   refine wN ?_
   refine tN (wKK hK3 ?_)
   refine wCf rfl ?_
   refine wSk ?_
   refine tN (wKK hK2 ?_)
   refine wSeqK fun KK4 hK4 => ?_
   intro aa ww nn dd hs H
   have hg := y1
   refine wIn nn dd hs H ?_
   refine wReg ?_
   refine wE (.pointer (some ⟨b1, 0, none⟩)) rfl rfl rfl (fun aa ww hs _ => by have e1 := hs 1 _ rfl; have g1 := gt_of e1; simp only [execOp]; go_simp <;> omega) ?_
   refine wLd rfl tyint 0 rfl rfl ?_
   refine wQ (l := [.int .i64 (r.getD 0 0)]) Tryz.func69 rfl (by kernel_rfl) (.tuple #[.agg #[.int .i64 ((sizeL (r.getD 0 0)).getD 0 0), .int .i64 ((sizeL (r.getD 0 0)).getD 1 0), .int .i64 ((sizeL (r.getD 0 0)).getD 2 0), .int .i64 ((sizeL (r.getD 0 0)).getD 3 0), .int .i64 ((sizeL (r.getD 0 0)).getD 4 0), .int .i64 ((sizeL (r.getD 0 0)).getD 5 0), .int .i64 ((sizeL (r.getD 0 0)).getD 6 0), .int .i64 ((sizeL (r.getD 0 0)).getD 7 0), .int .i64 ((sizeL (r.getD 0 0)).getD 8 0), .int .i64 ((sizeL (r.getD 0 0)).getD 9 0), .int .i64 ((sizeL (r.getD 0 0)).getD 10 0), .int .i64 ((sizeL (r.getD 0 0)).getD 11 0), .int .i64 ((sizeL (r.getD 0 0)).getD 12 0), .int .i64 ((sizeL (r.getD 0 0)).getD 13 0), .int .i64 ((sizeL (r.getD 0 0)).getD 14 0), .int .i64 ((sizeL (r.getD 0 0)).getD 15 0)], .bool (sizeIs (r.getD 0 0))]) (fun wc H => sizesC (r.getD 0 0) wc) rfl rfl rfl rfl ?_
   iterate 3 refine p_refEncC rfl ?_
   refine wAl rfl rfl ty_16_int fun b4 => ?_
   refine wSr rfl ty_16_int 0 rfl rfl rfl rfl [.int .i64 ((sizeL (r.getD 0 0)).getD 0 0), .int .i64 ((sizeL (r.getD 0 0)).getD 1 0), .int .i64 ((sizeL (r.getD 0 0)).getD 2 0), .int .i64 ((sizeL (r.getD 0 0)).getD 3 0), .int .i64 ((sizeL (r.getD 0 0)).getD 4 0), .int .i64 ((sizeL (r.getD 0 0)).getD 5 0), .int .i64 ((sizeL (r.getD 0 0)).getD 6 0), .int .i64 ((sizeL (r.getD 0 0)).getD 7 0), .int .i64 ((sizeL (r.getD 0 0)).getD 8 0), .int .i64 ((sizeL (r.getD 0 0)).getD 9 0), .int .i64 ((sizeL (r.getD 0 0)).getD 10 0), .int .i64 ((sizeL (r.getD 0 0)).getD 11 0), .int .i64 ((sizeL (r.getD 0 0)).getD 12 0), .int .i64 ((sizeL (r.getD 0 0)).getD 13 0), .int .i64 ((sizeL (r.getD 0 0)).getD 14 0), .int .i64 ((sizeL (r.getD 0 0)).getD 15 0)] (by first | rfl | (simp only [spl]; rfl)) ?_
   refine p_refEncC rfl ?_
   refine wN ?_
   refine tN (wKK hK4 ?_)
   refine wSeqK fun KK5 hK5 => ?_
   refine wReg ?_
   refine p_refEncC rfl ?_
   refine wN ?_
   refine tN (wKK hK5 ?_)
   refine wSeqK fun KK6 hK6 => ?_
   refine wSeqK fun KK7 hK7 => ?_
   refine wReg ?_
   refine p_refEncC rfl ?_
   refine wN ?_
   refine tN (wKK hK7 ?_)
   refine wBlk ?_
   refine wLoop (fun ab wv => ∃ i : Nat, ∃ o : ByteArray, i ≤ 16 ∧ Hid (o = str (bytesR r i)) ∧ o.size ≤ 8 * i ∧ ab.tmps.size = 41 ∧ ab.defers = [] ∧ Sat [(0, .agg #[.int .i64 (r.getD 0 0), .int .i64 (r.getD 1 0), .int .i64 (r.getD 2 0), .int .i64 (r.getD 3 0), .int .i64 (r.getD 4 0), .int .i64 (r.getD 5 0), .int .i64 (r.getD 6 0), .int .i64 (r.getD 7 0), .int .i64 (r.getD 8 0), .int .i64 (r.getD 9 0), .int .i64 (r.getD 10 0), .int .i64 (r.getD 11 0), .int .i64 (r.getD 12 0), .int .i64 (r.getD 13 0), .int .i64 (r.getD 14 0), .int .i64 (r.getD 15 0)]), (1, .pointer (some ⟨b1, 0, none⟩)), (2, .string (⟨#[]⟩ : ByteArray)), (3, .bool false), (4, .pointer (some ⟨b4, 0, none⟩)), (6, .string o), (7, .int .i64 i), (12, .bool false)] ab ∧ Hid (Hp [] w wv [rB b4 36 [.int .i64 ((sizeL (r.getD 0 0)).getD 0 0), .int .i64 ((sizeL (r.getD 0 0)).getD 1 0), .int .i64 ((sizeL (r.getD 0 0)).getD 2 0), .int .i64 ((sizeL (r.getD 0 0)).getD 3 0), .int .i64 ((sizeL (r.getD 0 0)).getD 4 0), .int .i64 ((sizeL (r.getD 0 0)).getD 5 0), .int .i64 ((sizeL (r.getD 0 0)).getD 6 0), .int .i64 ((sizeL (r.getD 0 0)).getD 7 0), .int .i64 ((sizeL (r.getD 0 0)).getD 8 0), .int .i64 ((sizeL (r.getD 0 0)).getD 9 0), .int .i64 ((sizeL (r.getD 0 0)).getD 10 0), .int .i64 ((sizeL (r.getD 0 0)).getD 11 0), .int .i64 ((sizeL (r.getD 0 0)).getD 12 0), .int .i64 ((sizeL (r.getD 0 0)).getD 13 0), .int .i64 ((sizeL (r.getD 0 0)).getD 14 0), .int .i64 ((sizeL (r.getD 0 0)).getD 15 0)], rB b1 37 [.int .i64 (r.getD 0 0), .int .i64 (r.getD 1 0), .int .i64 (r.getD 2 0), .int .i64 (r.getD 3 0), .int .i64 (r.getD 4 0), .int .i64 (r.getD 5 0), .int .i64 (r.getD 6 0), .int .i64 (r.getD 7 0), .int .i64 (r.getD 8 0), .int .i64 (r.getD 9 0), .int .i64 (r.getD 10 0), .int .i64 (r.getD 11 0), .int .i64 (r.getD 12 0), .int .i64 (r.getD 13 0), .int .i64 (r.getD 14 0), .int .i64 (r.getD 15 0)]])) (fun ab _ => 16 - (intOf (ab.eval (.tmp 7))).toNat) (fun aa ww nn dd hs H => ⟨0, ⟨#[]⟩, (by omega), (Lib.hid rfl), (Nat.zero_le _), nn, dd, (sat_sub ⟨rfl, rfl, rfl, rfl, rfl, rfl, rfl, rfl, trivial⟩ hs), H⟩) ?_
   rintro a1 wv ⟨i, o, hi, ho, hos, nn, dd, hs, H⟩
   have mu1_7 := hs 7 _ rfl
   refine wIn nn dd hs H ?_
   clear nn dd hs H
   refine wSeqK fun KK8 hK8 => ?_
   refine wSeqK fun KK9 hK9 => ?_
   refine wReg ?_
   iterate 2 refine p_refEncC rfl ?_
   refine wN ?_
   refine tN (wKK hK9 ?_)
   refine wCond (E := decide ((i : Int) < 16)) rfl (fun z2 => ?_) (fun z2 => ?_)
   · skip
     have z2d : (i : Int) < 16 := of_decide_eq_true z2
     refine wSk ?_
     refine tN (wKK hK8 ?_)
     refine wSeqK fun KK10 hK10 => ?_
     refine wBlk ?_
     refine wSeqK fun KK11 hK11 => ?_
     rcases Bool.eq_false_or_eq_true (decide (0 < (sizeL (r.getD 0 0)).getD i 0)) with y3 | y3
     · skip
       have y3d : 0 < (sizeL (r.getD 0 0)).getD i 0 := of_decide_eq_true y3
       refine wReg ?_
       refine p_refEncC rfl ?_
       refine wE (.pointer (some ⟨b4, i, none⟩)) rfl rfl rfl (fun aa ww hs _ => by have e4 := hs 4 _ rfl; have g4 := gt_of e4; have e23 := hs 23 _ rfl; have g23 := gt_of e23; simp only [execOp]; go_simp <;> omega) ?_
       refine wX 25 (.int .i64 ((sizeL (r.getD 0 0)).getD i 0)) rfl (fun aa ww KK hs H _ hk => hpA_load1 tyint H rfl (hs _ _ rfl) (wnt_ok hs rfl) (by (repeat (first | exact List.Mem.head _ | apply List.Mem.tail))) (get16 (sizeL (r.getD 0 0)) (by omega)) hk) ?_
       refine p_refEncC rfl ?_
       refine wB 26 rfl y3 ?_
       refine wN ?_
       refine tN (wKK hK11 ?_)
       refine wCt rfl ?_
       refine wSeqK fun KK12 hK12 => ?_
       intro aa ww nn dd hs H
       have hps := y3
       have hrs := rn_size ((sizeL (r.getD 0 0)).getD i 0) (r.getD i 0)
       have hrs2 : (refNumV ((sizeL (r[0]?.getD 0))[i]?.getD 0) (r[i]?.getD 0)).1.size ≤ 8 := by simpa only [List.getD_eq_getElem?_getD] using hrs
       refine wIn nn dd hs H ?_
       intro aa ww nn dd hs H
       refine refEncC_r9 r b1 hg b4 i o hi hos z2d y3d hps hrs hrs2 H aa nn (hs 1 _ rfl) (hs 4 _ rfl) (hs 7 _ rfl) ?_
       intro ab wv nn2 dd2 kp o8 H2
       refine wIn nn2 (dd2.trans dd) (Sat.cons (Sat.cons (Sat.cons (Sat.cons (Sat.cons (Sat.cons (Sat.cons (Sat.cons (Sat.cons (Sat.cons (Sat.cons (sat_nil ab) ((kp 26 rfl).trans (hs 26 _ rfl))) ((kp 20 rfl).trans (hs 20 _ rfl))) ((kp 12 rfl).trans (hs 12 _ rfl))) ((kp 7 rfl).trans (hs 7 _ rfl))) ((kp 6 rfl).trans (hs 6 _ rfl))) ((kp 4 rfl).trans (hs 4 _ rfl))) ((kp 3 rfl).trans (hs 3 _ rfl))) ((kp 2 rfl).trans (hs 2 _ rfl))) ((kp 1 rfl).trans (hs 1 _ rfl))) ((kp 0 rfl).trans (hs 0 _ rfl))) o8) H2 ?_
       clear hs H kp H2 dd dd2 nn nn2 o8
       refine tN (wKK hK12 ?_)
       refine wReg ?_
       iterate 2 refine p_refEncC rfl ?_
       refine wE (.string (o ++ ((refNumV ((sizeL (r.getD 0 0)).getD i 0) (r.getD i 0)).1))) rfl rfl rfl (fun aa ww hs _ => by have e37 := hs 37 _ rfl; have g37 := gt_of e37; have e38 := hs 38 _ rfl; have g38 := gt_of e38; simp only [execOp]; go_simp <;> omega) ?_
       refine p_refEncC rfl ?_
       refine wN ?_
       refine bN (tN (wKK hK10 ?_))
       refine wReg ?_
       iterate 2 refine p_refEncC rfl ?_
       refine wI 22 rfl (IntWalk.i64_in _ (by omega)) ?_
       refine p_refEncC rfl ?_
       refine wN ?_
       refine tN ?_
       intro aa ww nn dd hs H
       refine ⟨⟨i + 1, o ++ ((refNumV ((sizeL (r.getD 0 0)).getD i 0) (r.getD i 0)).1), (by omega), (Lib.hid (by rw [ho.out]; exact bytes_yes hg (by omega) y3)), (by first | omega | (rw [ByteArray.size_append]; omega)), nn, dd, (sat_sub ⟨rfl, rfl, rfl, rfl, rfl, rfl, rfl, rfl, trivial⟩ hs), H⟩, ?_⟩
       have m7 := hs 7 _ rfl
       simp only [mu1_7, m7, intOf]
       omega
     · skip
       have y3d : ¬ (0 < ((sizeL (r.getD 0 0)).getD i 0)) := of_decide_eq_false y3
       refine wReg ?_
       refine p_refEncC rfl ?_
       refine wE (.pointer (some ⟨b4, i, none⟩)) rfl rfl rfl (fun aa ww hs _ => by have e4 := hs 4 _ rfl; have g4 := gt_of e4; have e23 := hs 23 _ rfl; have g23 := gt_of e23; simp only [execOp]; go_simp <;> omega) ?_
       refine wX 25 (.int .i64 ((sizeL (r.getD 0 0)).getD i 0)) rfl (fun aa ww KK hs H _ hk => hpA_load1 tyint H rfl (hs _ _ rfl) (wnt_ok hs rfl) (by (repeat (first | exact List.Mem.head _ | apply List.Mem.tail))) (get16 (sizeL (r.getD 0 0)) (by omega)) hk) ?_
       refine p_refEncC rfl ?_
       refine wB 26 rfl y3 ?_
       refine wN ?_
       refine tN (wKK hK11 ?_)
       refine wCf rfl ?_
       refine wSk ?_
       refine bN (tN (wKK hK10 ?_))
       refine wReg ?_
       iterate 2 refine p_refEncC rfl ?_
       refine wI 22 rfl (IntWalk.i64_in _ (by omega)) ?_
       refine p_refEncC rfl ?_
       refine wN ?_
       refine tN ?_
       intro aa ww nn dd hs H
       refine ⟨⟨i + 1, o, (by omega), (Lib.hid (by rw [ho.out]; exact bytes_no y3)), (by first | omega | (rw [ByteArray.size_append]; omega)), nn, dd, (sat_sub ⟨rfl, rfl, rfl, rfl, rfl, rfl, rfl, rfl, trivial⟩ hs), H⟩, ?_⟩
       have m7 := hs 7 _ rfl
       simp only [mu1_7, m7, intOf]
       omega
   · skip
     have z2d : ¬ ((i : Int) < 16) := of_decide_eq_false z2
     refine wEx ?_
     refine tX (tX (bX (tN (wKK hK6 ?_))))
     refine wSeqK fun KK13 hK13 => ?_
     refine wReg ?_
     iterate 3 refine p_refEncC rfl ?_
     refine wN ?_
     refine tN (wKK hK13 ?_)
     refine wRet ?_
     exact wR2 rfl rfl rfl (fun ww H => ⟨by rw [← enc_yes hg, ho.out, show i = 16 by omega, hg], H.out.off⟩)
 · skip
   refine wReg ?_
   refine wLr rfl tyhoistwayref14_Request 0 rfl [.int .i64 (r.getD 0 0), .int .i64 (r.getD 1 0), .int .i64 (r.getD 2 0), .int .i64 (r.getD 3 0), .int .i64 (r.getD 4 0), .int .i64 (r.getD 5 0), .int .i64 (r.getD 6 0), .int .i64 (r.getD 7 0), .int .i64 (r.getD 8 0), .int .i64 (r.getD 9 0), .int .i64 (r.getD 10 0), .int .i64 (r.getD 11 0), .int .i64 (r.getD 12 0), .int .i64 (r.getD 13 0), .int .i64 (r.getD 14 0), .int .i64 (r.getD 15 0)] rfl rfl ?_
   refine wQ (l := [.agg #[.int .i64 (r.getD 0 0), .int .i64 (r.getD 1 0), .int .i64 (r.getD 2 0), .int .i64 (r.getD 3 0), .int .i64 (r.getD 4 0), .int .i64 (r.getD 5 0), .int .i64 (r.getD 6 0), .int .i64 (r.getD 7 0), .int .i64 (r.getD 8 0), .int .i64 (r.getD 9 0), .int .i64 (r.getD 10 0), .int .i64 (r.getD 11 0), .int .i64 (r.getD 12 0), .int .i64 (r.getD 13 0), .int .i64 (r.getD 14 0), .int .i64 (r.getD 15 0)]]) Tryz.func68 rfl (by kernel_rfl) (.bool false) (fun wc H => by have h := goodC r wc; rw [y1] at h; exact h) rfl rfl rfl rfl ?_
   refine p_refEncC rfl ?_
   refine wN ?_
   refine tN (wKK hK3 ?_)
   refine wCt rfl ?_
   refine wSeqK fun KK14 hK14 => ?_
   refine wReg ?_
   iterate 2 refine p_refEncC rfl ?_
   refine wN ?_
   refine tN (wKK hK14 ?_)
   refine wRet ?_
   refine tR ?_
   exact wR2 rfl rfl rfl (fun ww H => ⟨by rw [enc_no y1, y1], H.out.off⟩)
end Go.Proofs.YthflkhalipkdgaaGreat.Ms
