/- Layer 14: the reference: bytes. -/
import Derived.Test.YtloemjhhedkhiaaProg
import Derived.Below
import Derived.WalkKit
import Derived.KernelRfl
import Derived.RowKit3
import Derived.Deep.LoopGhost
import Derived.Deep.QuietTactic
import Derived.BigQuiet
import Derived.WideLaws
import Derived.Deep.DeepCutAuto
import Derived.Deep.CutBlock
import Derived.Lib.Hide
import Derived.Laws.BitsLemmas
import Derived.Laws.Bits64
import Derived.Laws.BitsAllLaws
import Derived.IntWalk
import Derived.Outline
import Derived.WalkSpells
import Derived.Test.YtloemjhhedkhiaaMem
import Derived.Test.YtloemjhhedkhiaaRg1
import Derived.Test.YtloemjhhedkhiaaMr
namespace Go.Proofs.Ytloemjhhedkhiaa.Ms
open Go.RowKit Go.Proofs.Ytloemjhhedkhiaa.Mem Go.Proofs.Ytloemjhhedkhiaa.Pk Go.Proofs.Ytloemjhhedkhiaa.Ca Go.Proofs.Ytloemjhhedkhiaa.Reg Go.Proofs.Ytloemjhhedkhiaa.Wk
set_option linter.unusedVariables false
set_option linter.unusedSimpArgs false

theorem size_in (k : Int) : ∀ x ∈ sizeL k, x = 0 ∨ x = 1 ∨ x = 4 := by
  unfold sizeL
  cases k == 1 <;> cases k == 2 <;> cases k == 3 <;> cases k == 7 <;> cases k == 9 <;> cases k == 4 <;> cases k == 5 <;> cases k == 6 <;> cases k == 8 <;> cases k == 10 <;> simp only [cond_true, cond_false] <;> decide
theorem size_get (k : Int) (i : Nat) : (sizeL k).getD i 0 = 0 ∨ (sizeL k).getD i 0 = 1 ∨ (sizeL k).getD i 0 = 4 := by
  rw [List.getD_eq_getElem?_getD]
  cases h : (sizeL k)[i]? with
  | none => exact .inl rfl
  | some x => exact size_in k x (List.mem_of_getElem? h)
theorem is_kind {k : Int} (h : sizeIs k = true) : 1 ≤ k ∧ k ≤ 10 := by
  unfold sizeIs at h
  have e : k = 1 ∨ k = 2 ∨ k = 3 ∨ k = 7 ∨ k = 9 ∨ k = 4 ∨ k = 5 ∨ k = 6 ∨ k = 8 ∨ k = 10 := by
    by_cases h1 : k = 1 <;> by_cases h2 : k = 2 <;> by_cases h3 : k = 3 <;> by_cases h4 : k = 7 <;> by_cases h5 : k = 9 <;> by_cases h6 : k = 4 <;> by_cases h7 : k = 5 <;> by_cases h8 : k = 6 <;> by_cases h9 : k = 8 <;> by_cases h10 : k = 10 <;> simp_all
  omega
theorem head_of {r : List Int} (h : goodR r = true) : headR r = false ∧ okTo r 14 = true ∧ whoR r = false ∧ filR r = true := by
  unfold goodR at h
  cases h1 : headR r <;> rw [h1] at h
  · cases h2 : okTo r 14 <;> rw [h2] at h
    · cases h
    · cases h3 : whoR r <;> rw [h3] at h
      · exact ⟨rfl, rfl, rfl, h⟩
      · cases h
  · cases h
theorem ok_at {r : List Int} (h : okTo r 14 = true) {k : Nat} (h2 : 2 ≤ k) (hk : k < 16) : okR (szR r k) (r.getD k 0) = true := by
  have h1 := okTo_le (k := k - 2 + 1) (by omega) h
  unfold okTo at h1
  rw [show k - 2 + 2 = k by omega, Bool.and_eq_true] at h1
  exact h1.2
theorem num_good {r : List Int} (hg : goodR r = true) {i : Nat} (hi : i < 16) (hs : 0 < szR r i) : (szR r i = 1 ∨ szR r i = 4) ∧ 0 ≤ r.getD i 0 ∧ r.getD i 0 < (256 : Int) ^ (szR r i).toNat := by
  obtain ⟨h1, h2, _, _⟩ := head_of hg
  have hz : szR r i = 1 ∨ szR r i = 4 := by
    rcases size_get (r.getD 0 0) i with e | e | e
    · unfold szR at hs; omega
    · exact .inl e
    · exact .inr e
  refine ⟨hz, ?_⟩
  unfold headR at h1
  simp only [Bool.or_eq_false_iff, Bool.not_eq_false', decide_eq_false_iff_not] at h1
  obtain ⟨⟨g1, g2⟩, g3⟩ := h1
  rcases Nat.lt_or_ge i 2 with h | h
  · have : i = 0 ∨ i = 1 := by omega
    rcases this with rfl | rfl
    · have h5 := is_kind g1
      have e : szR r 0 = 1 := by
        unfold szR sizeL
        cases r.getD 0 0 == 1 <;> cases r.getD 0 0 == 2 <;> cases r.getD 0 0 == 3 <;> cases r.getD 0 0 == 7 <;> cases r.getD 0 0 == 9 <;> cases r.getD 0 0 == 4 <;> cases r.getD 0 0 == 5 <;> cases r.getD 0 0 == 6 <;> cases r.getD 0 0 == 8 <;> cases r.getD 0 0 == 10 <;> rfl
      rw [e]
      simp only [Int.reduceToNat, Int.reducePow]
      omega
    · have e : szR r 1 = 4 := by
        unfold szR sizeL
        cases r.getD 0 0 == 1 <;> cases r.getD 0 0 == 2 <;> cases r.getD 0 0 == 3 <;> cases r.getD 0 0 == 7 <;> cases r.getD 0 0 == 9 <;> cases r.getD 0 0 == 4 <;> cases r.getD 0 0 == 5 <;> cases r.getD 0 0 == 6 <;> cases r.getD 0 0 == 8 <;> cases r.getD 0 0 == 10 <;> rfl
      rw [e]
      simp only [Int.reduceToNat, Int.reducePow]
      omega
  · have h5 := ok_at h2 h hi
    unfold okR at h5
    generalize r.getD i 0 = n at h5 ⊢
    rcases hz with e | e
    · rw [e] at h5 ⊢
      simp at h5
      simp only [Int.reduceToNat, Int.reducePow]
      omega
    · rw [e] at h5 ⊢
      simp at h5
      simp only [Int.reduceToNat, Int.reducePow]
      omega
theorem num_small {r : List Int} (hg : goodR r = true) {i : Nat} (hi : i < 16) (hs : decide (0 < (sizeL (r.getD 0 0)).getD i 0) = true) : r.getD i 0 < 9223372036854775808 := by
  obtain ⟨h1, h2, h3⟩ := num_good hg hi (of_decide_eq_true hs)
  rcases h1 with e | e <;> rw [e] at h3 <;> simp only [Int.reduceToNat, Int.reducePow] at h3 <;> omega
def bytesR (r : List Int) : Nat → List Nat
  | 0 => []
  | i + 1 => bytesR r i ++ (bif decide (0 < szR r i) then beB (szR r i).toNat (r.getD i 0).toNat else [])
def refB (r : List Int) : List Nat := bytesR r 16
def encR (r : List Int) : ByteArray := bif goodR r then str (refB r) else ⟨#[]⟩
theorem ref_str {r : List Int} (hg : goodR r = true) {i : Nat} (hi : i < 16) (hs : 0 < szR r i) : (refNumV (szR r i) (r.getD i 0)).1 = str (beB (szR r i).toNat (r.getD i 0).toNat) := by
  obtain ⟨h1, h2, _⟩ := num_good hg hi hs
  unfold refNumV
  rw [if_pos ⟨by rcases h1 with e | e <;> rw [e] <;> rfl, h2⟩]
theorem bytes_yes {r : List Int} (hg : goodR r = true) {i : Nat} (hi : i < 16) (hs : decide (0 < (sizeL (r.getD 0 0)).getD i 0) = true) : str (bytesR r i) ++ (refNumV ((sizeL (r.getD 0 0)).getD i 0) (r.getD i 0)).1 = str (bytesR r (i + 1)) := by
  have h := ref_str hg hi (of_decide_eq_true hs)
  have e : bytesR r (i + 1) = bytesR r i ++ (bif decide (0 < szR r i) then beB (szR r i).toNat (r.getD i 0).toNat else []) := rfl
  unfold szR at h e
  rw [h, e, str_more, hs]
  rfl
theorem bytes_no {r : List Int} {i : Nat} (hs : decide (0 < (sizeL (r.getD 0 0)).getD i 0) = false) : str (bytesR r i) = str (bytesR r (i + 1)) := by
  rw [bytesR]
  unfold szR
  rw [hs]
  simp
theorem rn_size (w n : Int) : (refNumV w n).1.size ≤ 8 := by
  unfold refNumV
  split
  · rename_i h
    show (str _).size ≤ 8
    rw [str_size, beB_length]
    have := wide_cases h.1
    omega
  · exact Nat.zero_le _
theorem enc_no {r : List Int} (h : goodR r = false) : (⟨#[]⟩ : ByteArray) = encR r := by unfold encR; rw [h]; rfl
theorem enc_yes {r : List Int} (h : goodR r = true) : str (bytesR r 16) = encR r := by unfold encR refB; rw [h]; rfl
/-- numbers that are read, one behind the other -/
def rdTo (z : List Int) (s : ByteArray) : Nat → List Int × ByteArray × Bool
  | 0 => ([0, 0, 0, 0, 0, 0, 0, 0, 0, 0, 0, 0, 0, 0, 0, 0], s, false)
  | i + 1 => bif decide (0 < z.getD i 0) then ((rdTo z s i).1.set i ((inNumV (rdTo z s i).2.1 (rdTo z s i).2.2 (z.getD i 0)).1 : Int), (inNumV (rdTo z s i).2.1 (rdTo z s i).2.2 (z.getD i 0)).2) else rdTo z s i
theorem rd_yes {z : List Int} {s s2 s3 : ByteArray} {i n : Nat} {r : List Int} {b2 b3 : Bool} (h : rdTo z s i = (r, s2, b2)) (hs : decide (0 < z.getD i 0) = true) (hn : inNumV s2 b2 (z.getD i 0) = (n, s3, b3)) : rdTo z s (i + 1) = (r.set i n, s3, b3) := by
  rw [rdTo, hs, h]
  simp only [cond_true]
  rw [hn]
theorem rd_no {z : List Int} {s s2 : ByteArray} {i : Nat} {r : List Int} {b2 : Bool} (h : rdTo z s i = (r, s2, b2)) (hs : decide (0 < z.getD i 0) = false) : rdTo z s (i + 1) = (r, s2, b2) := by
  rw [rdTo, hs, h]
  rfl
def rdV (s : ByteArray) : List Int × ByteArray × Bool := rdTo (sizeL (idxB s 0)) s 16
def decOk (s : ByteArray) : Bool := bif decide ((s.size : Int) < 5) then false else !((((!(sizeIs (idxB s 0))) || (rdV s).2.2) || decide (0 < ((rdV s).2.1.size : Int))) || (!(goodR (rdV s).1)))
def decL (s : ByteArray) : List Int := bif decOk s then (rdV s).1 else [0, 0, 0, 0, 0, 0, 0, 0, 0, 0, 0, 0, 0, 0, 0, 0]
theorem dec_short {s : ByteArray} (h : decide ((s.size : Int) < 5) = true) : decOk s = false := by unfold decOk; rw [h]; rfl
theorem dec_at {s s2 : ByteArray} {r : List Int} {b2 E : Bool} (h : decide ((s.size : Int) < 5) = false) (hr : rdTo (sizeL (idxB s 0)) s 16 = (r, s2, b2)) (hE : ((((!(sizeIs (idxB s 0))) || b2) || decide (0 < (s2.size : Int))) || (!(goodR r))) = E) : decOk s = !E := by
  unfold decOk rdV
  rw [h, hr]
  simp only [cond_false]
  rw [hE]
theorem dec_val {s s2 : ByteArray} {r : List Int} {b2 : Bool} (h : decOk s = true) (hr : rdTo (sizeL (idxB s 0)) s 16 = (r, s2, b2)) : decL s = r := by
  unfold decL rdV
  rw [h, hr]
  rfl
theorem dec_none {s : ByteArray} (h : decOk s = false) : decL s = [0, 0, 0, 0, 0, 0, 0, 0, 0, 0, 0, 0, 0, 0, 0, 0] := by unfold decL; rw [h]; rfl
def numsQ (q : ReqV) : List Int := [q.kind, q.seq, q.who, q.role, q.token, q.key / 4294967296, q.key % 4294967296, q.call.kind, q.call.src, q.call.dst, q.call.car, q.id, q.car, q.mode, q.filter.kind, q.filter.n]
def formB (q : ReqV) : Bool := (((q.call.id == 0) && (q.call.state == 0)) && (q.call.owner == 0)) && (q.call.born == 0)
def tab_refEncC : Wk.Tab := []
theorem p_refEncC {ops : Array Oper} {rest : List Oper} {o : Oper} {w0 : World} {Q : Exit → Act → World → Prop} {S : List Nat} {R : List Res} {K K' : Wk.Env} {N : Nat} (h : Wk.stp tab_refEncC N ops K o = some K') (n : Wk.Wk N S w0 K' R (wpList Try.prog ops Q rest)) : Wk.Wk N S w0 K R (wpList Try.prog ops Q (o :: rest)) := Wk.wP (T := tab_refEncC) (by kernel_rfl) h n
set_option maxHeartbeats 4000000 in
set_option maxRecDepth 20000 in
theorem refEncC_r9 (r : List Int) (b1 : Nat) (hg : goodR r = true) (b4 : Nat) (i : Nat) (o : ByteArray) (hi : i ≤ 16) (hos : o.size ≤ 8 * i) (z2d : (i : Int) < 16) (y3d : 0 < (sizeL (r.getD 0 0)).getD i 0) (hps : decide (0 < (sizeL (r.getD 0 0)).getD i 0) = true) (hrs : (refNumV ((sizeL (r.getD 0 0)).getD i 0) (r.getD i 0)).1.size ≤ 8) (hrs2 : (refNumV ((sizeL (r[0]?.getD 0))[i]?.getD 0) (r[i]?.getD 0)).1.size ≤ 8) {wa wb : World} (H : Hid (Hp [] wa wb [rB b4 31 [.int .i64 ((sizeL (r.getD 0 0)).getD 0 0), .int .i64 ((sizeL (r.getD 0 0)).getD 1 0), .int .i64 ((sizeL (r.getD 0 0)).getD 2 0), .int .i64 ((sizeL (r.getD 0 0)).getD 3 0), .int .i64 ((sizeL (r.getD 0 0)).getD 4 0), .int .i64 ((sizeL (r.getD 0 0)).getD 5 0), .int .i64 ((sizeL (r.getD 0 0)).getD 6 0), .int .i64 ((sizeL (r.getD 0 0)).getD 7 0), .int .i64 ((sizeL (r.getD 0 0)).getD 8 0), .int .i64 ((sizeL (r.getD 0 0)).getD 9 0), .int .i64 ((sizeL (r.getD 0 0)).getD 10 0), .int .i64 ((sizeL (r.getD 0 0)).getD 11 0), .int .i64 ((sizeL (r.getD 0 0)).getD 12 0), .int .i64 ((sizeL (r.getD 0 0)).getD 13 0), .int .i64 ((sizeL (r.getD 0 0)).getD 14 0), .int .i64 ((sizeL (r.getD 0 0)).getD 15 0)], rB b1 32 [.int .i64 (r.getD 0 0), .int .i64 (r.getD 1 0), .int .i64 (r.getD 2 0), .int .i64 (r.getD 3 0), .int .i64 (r.getD 4 0), .int .i64 (r.getD 5 0), .int .i64 (r.getD 6 0), .int .i64 (r.getD 7 0), .int .i64 (r.getD 8 0), .int .i64 (r.getD 9 0), .int .i64 (r.getD 10 0), .int .i64 (r.getD 11 0), .int .i64 (r.getD 12 0), .int .i64 (r.getD 13 0), .int .i64 (r.getD 14 0), .int .i64 (r.getD 15 0)]])) (ac0 : Act) (hz : ac0.tmps.size = 41) (so1 : ac0.eval (.tmp 1) = .pointer (some ⟨b1, 0, none⟩)) (so4 : ac0.eval (.tmp 4) = .pointer (some ⟨b4, 0, none⟩)) (so7 : ac0.eval (.tmp 7) = .int .i64 i) {QR : Exit → Act → World → Prop} (hfin : ∀ (ac1 : Act) (wz : World), ac1.tmps.size = 41 → ac1.defers = ac0.defers → (∀ t, ([8, 9, 27, 28, 29, 30, 31, 32, 33, 34, 35, 36] : List Nat).contains t = false → ac1.eval (.tmp t) = ac0.eval (.tmp t)) → ac1.eval (.tmp 8) = .string ((refNumV ((sizeL (r.getD 0 0)).getD i 0) (r.getD i 0)).1) →  Hid (Hp [] wa wz [rB b4 31 [.int .i64 ((sizeL (r.getD 0 0)).getD 0 0), .int .i64 ((sizeL (r.getD 0 0)).getD 1 0), .int .i64 ((sizeL (r.getD 0 0)).getD 2 0), .int .i64 ((sizeL (r.getD 0 0)).getD 3 0), .int .i64 ((sizeL (r.getD 0 0)).getD 4 0), .int .i64 ((sizeL (r.getD 0 0)).getD 5 0), .int .i64 ((sizeL (r.getD 0 0)).getD 6 0), .int .i64 ((sizeL (r.getD 0 0)).getD 7 0), .int .i64 ((sizeL (r.getD 0 0)).getD 8 0), .int .i64 ((sizeL (r.getD 0 0)).getD 9 0), .int .i64 ((sizeL (r.getD 0 0)).getD 10 0), .int .i64 ((sizeL (r.getD 0 0)).getD 11 0), .int .i64 ((sizeL (r.getD 0 0)).getD 12 0), .int .i64 ((sizeL (r.getD 0 0)).getD 13 0), .int .i64 ((sizeL (r.getD 0 0)).getD 14 0), .int .i64 ((sizeL (r.getD 0 0)).getD 15 0)], rB b1 32 [.int .i64 (r.getD 0 0), .int .i64 (r.getD 1 0), .int .i64 (r.getD 2 0), .int .i64 (r.getD 3 0), .int .i64 (r.getD 4 0), .int .i64 (r.getD 5 0), .int .i64 (r.getD 6 0), .int .i64 (r.getD 7 0), .int .i64 (r.getD 8 0), .int .i64 (r.getD 9 0), .int .i64 (r.getD 10 0), .int .i64 (r.getD 11 0), .int .i64 (r.getD 12 0), .int .i64 (r.getD 13 0), .int .i64 (r.getD 14 0), .int .i64 (r.getD 15 0)]]) → QR .normal ac1 wz) : (regAt Try.f13 9).wp Try.prog QR ac0 wb := by
  refine wp_region_st mixedP ⟨[0, 1, 2, 0, 1, 2, 3, 4, 5, 5, 6, 7], by kernel_rfl⟩ [[], [0], [0, 1], [], [3], [3, 4], [0, 1, 2, 3, 4, 5], [0, 1, 2, 3, 4, 5, 6], [0, 1, 2, 3, 4, 5, 6, 7], [0, 1, 2, 3, 4, 5, 6, 7], [0, 1, 2, 3, 4, 5, 6, 7, 8], [0, 1, 2, 3, 4, 5, 6, 7, 8, 9, 10]] (by kernel_rfl) (by kernel_rfl) 41 hz (by kernel_rfl) (fun (xx : Unit) jx => nth [.int .i64 i, .pointer (some ⟨b4, i, none⟩), .int .i64 ((sizeL (r.getD 0 0)).getD i 0), .int .i64 i, .pointer (some ⟨b1, i, none⟩), .int .i64 (r.getD i 0), .tuple #[.string ((refNumV ((sizeL (r.getD 0 0)).getD i 0) (r.getD i 0)).1), .bool ((refNumV ((sizeL (r.getD 0 0)).getD i 0) (r.getD i 0)).2)], .tuple #[.string ((refNumV ((sizeL (r.getD 0 0)).getD i 0) (r.getD i 0)).1), .bool ((refNumV ((sizeL (r.getD 0 0)).getD i 0) (r.getD i 0)).2)], .string ((refNumV ((sizeL (r.getD 0 0)).getD i 0) (r.getD i 0)).1), .bool ((refNumV ((sizeL (r.getD 0 0)).getD i 0) (r.getD i 0)).2), .string ((refNumV ((sizeL (r.getD 0 0)).getD i 0) (r.getD i 0)).1), .bool ((refNumV ((sizeL (r.getD 0 0)).getD i 0) (r.getD i 0)).2)] jx) (fun (LL : Nat → Bool) (xx : Unit) ww => Hp [] wa ww [rB b4 31 [.int .i64 ((sizeL (r.getD 0 0)).getD 0 0), .int .i64 ((sizeL (r.getD 0 0)).getD 1 0), .int .i64 ((sizeL (r.getD 0 0)).getD 2 0), .int .i64 ((sizeL (r.getD 0 0)).getD 3 0), .int .i64 ((sizeL (r.getD 0 0)).getD 4 0), .int .i64 ((sizeL (r.getD 0 0)).getD 5 0), .int .i64 ((sizeL (r.getD 0 0)).getD 6 0), .int .i64 ((sizeL (r.getD 0 0)).getD 7 0), .int .i64 ((sizeL (r.getD 0 0)).getD 8 0), .int .i64 ((sizeL (r.getD 0 0)).getD 9 0), .int .i64 ((sizeL (r.getD 0 0)).getD 10 0), .int .i64 ((sizeL (r.getD 0 0)).getD 11 0), .int .i64 ((sizeL (r.getD 0 0)).getD 12 0), .int .i64 ((sizeL (r.getD 0 0)).getD 13 0), .int .i64 ((sizeL (r.getD 0 0)).getD 14 0), .int .i64 ((sizeL (r.getD 0 0)).getD 15 0)], rB b1 32 [.int .i64 (r.getD 0 0), .int .i64 (r.getD 1 0), .int .i64 (r.getD 2 0), .int .i64 (r.getD 3 0), .int .i64 (r.getD 4 0), .int .i64 (r.getD 5 0), .int .i64 (r.getD 6 0), .int .i64 (r.getD 7 0), .int .i64 (r.getD 8 0), .int .i64 (r.getD 9 0), .int .i64 (r.getD 10 0), .int .i64 (r.getD 11 0), .int .i64 (r.getD 12 0), .int .i64 (r.getD 13 0), .int .i64 (r.getD 14 0), .int .i64 (r.getD 15 0)]]) () H.out.drew ?_ (steps_al ?_) ?_ ?_
  · exact fun _ _ _ _ _ h => h
  · refine al_cons ?_ (al_cons ?_ (al_cons ?_ (al_cons ?_ (al_cons ?_ (al_cons ?_ (al_cons ?_ (al_cons ?_ (al_cons ?_ (al_cons ?_ (al_cons ?_ (al_cons ?_ (al_nil))))))))))))
    · intro LL xx ac wc sg hst hwant QQ hgo
      exact op_val hwant hgo hst _ (exec_move rfl ((sg.free 7 (by kernel_rfl)).trans so7)) rfl
    · intro LL xx ac wc sg hst hwant QQ hgo
      have se4 : ac.eval (.tmp 4) = _ := ((sg.free 4 (by kernel_rfl)).trans so4)
      have sg4 := gt_of se4
      have se28 : ac.eval (.tmp 28) = _ := (sg.slot 0 (sg.anc 0 rfl))
      have sg28 := gt_of se28
      (try simp only [nth] at se4 sg4 se28 sg28)
      exact op_val hwant hgo hst _ (by simp only [execOp, nth]; go_simp <;> omega) rfl
    · intro LL xx ac wc sg hst hwant QQ hgo
      have H := Lib.hid hst
      refine hpA_load1 tyint H rfl (sg.slot 1 (sg.anc 1 rfl)) hwant (by (repeat (first | exact List.Mem.head _ | apply List.Mem.tail))) (get16 (sizeL (r.getD 0 0)) (by omega)) ?_
      exact hgo _ () _ (fun _ _ => rfl) rfl hst
    · intro LL xx ac wc sg hst hwant QQ hgo
      exact op_val hwant hgo hst _ (exec_move rfl ((sg.free 7 (by kernel_rfl)).trans so7)) rfl
    · intro LL xx ac wc sg hst hwant QQ hgo
      have se1 : ac.eval (.tmp 1) = _ := ((sg.free 1 (by kernel_rfl)).trans so1)
      have sg1 := gt_of se1
      have se31 : ac.eval (.tmp 31) = _ := (sg.slot 3 (sg.anc 3 rfl))
      have sg31 := gt_of se31
      (try simp only [nth] at se1 sg1 se31 sg31)
      exact op_val hwant hgo hst _ (by simp only [execOp, nth]; go_simp <;> omega) rfl
    · intro LL xx ac wc sg hst hwant QQ hgo
      have H := Lib.hid hst
      refine hpA_load1 tyint H rfl (sg.slot 4 (sg.anc 4 rfl)) hwant (by (repeat (first | exact List.Mem.head _ | apply List.Mem.tail))) (get16 r (by omega)) ?_
      exact hgo _ () _ (fun _ _ => rfl) rfl hst
    · intro LL xx ac wc sg hst hwant QQ hgo
      have se30 : ac.eval (.tmp 30) = _ := (sg.slot 2 (sg.anc 2 rfl))
      have sg30 := gt_of se30
      have se33 : ac.eval (.tmp 33) = _ := (sg.slot 5 (sg.anc 5 rfl))
      have sg33 := gt_of se33
      (try simp only [nth] at se30 sg30 se33 sg33)
      refine op_call hwant hgo 36 #[.int .i64 ((sizeL (r.getD 0 0)).getD i 0), .int .i64 (r.getD i 0)] (by simp only [execOp]; go_simp) (refNum ((sizeL (r.getD 0 0)).getD i 0) (r.getD i 0) wc (num_small hg (by omega) hps)) ?_
      rintro er wd ⟨rfl, hof⟩
      exact ⟨_, (), rfl, fun _ _ => rfl, rfl, Hp.quiet hst hof⟩
    · intro LL xx ac wc sg hst hwant QQ hgo
      exact op_val hwant hgo hst _ (exec_move rfl (sg.slot 6 (sg.anc 6 rfl))) rfl
    · intro LL xx ac wc sg hst hwant QQ hgo
      have se27 : ac.eval (.tmp 27) = _ := (sg.slot 7 (sg.anc 7 rfl))
      have sg27 := gt_of se27
      (try simp only [nth] at se27 sg27)
      exact op_val hwant hgo hst _ (by simp only [execOp, nth]; go_simp <;> omega) rfl
    · intro LL xx ac wc sg hst hwant QQ hgo
      have se27 : ac.eval (.tmp 27) = _ := (sg.slot 7 (sg.anc 7 rfl))
      have sg27 := gt_of se27
      (try simp only [nth] at se27 sg27)
      exact op_val hwant hgo hst _ (by simp only [execOp, nth]; go_simp <;> omega) rfl
    · intro LL xx ac wc sg hst hwant QQ hgo
      exact op_val hwant hgo hst _ (exec_assign rfl (sg.slot 8 (sg.anc 8 rfl))) rfl
    · intro LL xx ac wc sg hst hwant QQ hgo
      exact op_val hwant hgo hst _ (exec_assign rfl (sg.slot 9 (sg.anc 9 rfl))) rfl
  · exact skips [] (by kernel_rfl) (fun _ h => by cases h)
  · intro xx ac1 wz hfr hsl hst
    exact hfin ac1 wz (hfr.size.trans hz) hfr.defers (fr_keep hfr [8, 9, 27, 28, 29, 30, 31, 32, 33, 34, 35, 36] (by kernel_rfl)) (hsl 10 (by decide)) (Lib.hid hst)
set_option maxHeartbeats 16000000 in
set_option maxRecDepth 20000 in
theorem refEncC (r : List Int) (w : World) : Calls Try.prog 13 #[.agg #[.int .i64 (r.getD 0 0), .int .i64 (r.getD 1 0), .int .i64 (r.getD 2 0), .int .i64 (r.getD 3 0), .int .i64 (r.getD 4 0), .int .i64 (r.getD 5 0), .int .i64 (r.getD 6 0), .int .i64 (r.getD 7 0), .int .i64 (r.getD 8 0), .int .i64 (r.getD 9 0), .int .i64 (r.getD 10 0), .int .i64 (r.getD 11 0), .int .i64 (r.getD 12 0), .int .i64 (r.getD 13 0), .int .i64 (r.getD 14 0), .int .i64 (r.getD 15 0)]] w fun e w' => e = .returned (.tuple #[.string (encR r), .bool (goodR r)]) ∧ Off [] w w' := by
 have H := Lib.hid (Hp.start [] w)
 refine wStart (args := [.agg #[.int .i64 (r.getD 0 0), .int .i64 (r.getD 1 0), .int .i64 (r.getD 2 0), .int .i64 (r.getD 3 0), .int .i64 (r.getD 4 0), .int .i64 (r.getD 5 0), .int .i64 (r.getD 6 0), .int .i64 (r.getD 7 0), .int .i64 (r.getD 8 0), .int .i64 (r.getD 9 0), .int .i64 (r.getD 10 0), .int .i64 (r.getD 11 0), .int .i64 (r.getD 12 0), .int .i64 (r.getD 13 0), .int .i64 (r.getD 14 0), .int .i64 (r.getD 15 0)]]) Try.func13 rfl rfl rfl H ?_
 clear H
 show Wk 41 _ _ [(0, .agg #[.int .i64 (r.getD 0 0), .int .i64 (r.getD 1 0), .int .i64 (r.getD 2 0), .int .i64 (r.getD 3 0), .int .i64 (r.getD 4 0), .int .i64 (r.getD 5 0), .int .i64 (r.getD 6 0), .int .i64 (r.getD 7 0), .int .i64 (r.getD 8 0), .int .i64 (r.getD 9 0), .int .i64 (r.getD 10 0), .int .i64 (r.getD 11 0), .int .i64 (r.getD 12 0), .int .i64 (r.getD 13 0), .int .i64 (r.getD 14 0), .int .i64 (r.getD 15 0)])] _ _
 refine wSeqK fun KK1 hK1 => ?_
 refine wReg ?_
 refine wBx rfl rfl rfl fun b1 => ?_
 iterate 2 refine p_refEncC rfl ?_
 refine wN ?_
 refine tN (wKK hK1 ?_)
 refine wSeqK fun KK2 hK2 => ?_
 refine wSeqK fun KK3 hK3 => ?_
 rcases Bool.eq_false_or_eq_true (goodR r) with y1 | y1
 · skip
   refine wReg ?_
   refine wLr rfl tyhoistwayref14_Request 0 rfl [.int .i64 (r.getD 0 0), .int .i64 (r.getD 1 0), .int .i64 (r.getD 2 0), .int .i64 (r.getD 3 0), .int .i64 (r.getD 4 0), .int .i64 (r.getD 5 0), .int .i64 (r.getD 6 0), .int .i64 (r.getD 7 0), .int .i64 (r.getD 8 0), .int .i64 (r.getD 9 0), .int .i64 (r.getD 10 0), .int .i64 (r.getD 11 0), .int .i64 (r.getD 12 0), .int .i64 (r.getD 13 0), .int .i64 (r.getD 14 0), .int .i64 (r.getD 15 0)] rfl rfl ?_
   refine wQ (l := [.agg #[.int .i64 (r.getD 0 0), .int .i64 (r.getD 1 0), .int .i64 (r.getD 2 0), .int .i64 (r.getD 3 0), .int .i64 (r.getD 4 0), .int .i64 (r.getD 5 0), .int .i64 (r.getD 6 0), .int .i64 (r.getD 7 0), .int .i64 (r.getD 8 0), .int .i64 (r.getD 9 0), .int .i64 (r.getD 10 0), .int .i64 (r.getD 11 0), .int .i64 (r.getD 12 0), .int .i64 (r.getD 13 0), .int .i64 (r.getD 14 0), .int .i64 (r.getD 15 0)]]) Try.func26 rfl (by kernel_rfl) (.bool true) (fun wc H => by have h := goodC r wc; rw [y1] at h; exact h) rfl rfl rfl rfl ?_
   refine p_refEncC rfl ?_
   refine wN ?_
   refine tN (wKK hK3 ?_)
   refine wCf rfl ?_
   refine wSk ?_
   refine tN (wKK hK2 ?_)
   refine wSeqK fun KK4 hK4 => ?_
   intro aa ww nn dd hs H
   have hg := y1
   refine wIn nn dd hs H ?_
   refine wReg ?_
   refine wE (.pointer (some ⟨b1, 0, none⟩)) rfl rfl rfl (fun aa ww hs _ => by have e1 := hs 1 _ rfl; have g1 := gt_of e1; simp only [execOp]; go_simp <;> omega) ?_
   refine wLd rfl tyint 0 rfl rfl ?_
   refine wQ (l := [.int .i64 (r.getD 0 0)]) Try.func38 rfl (by kernel_rfl) (.tuple #[.agg #[.int .i64 ((sizeL (r.getD 0 0)).getD 0 0), .int .i64 ((sizeL (r.getD 0 0)).getD 1 0), .int .i64 ((sizeL (r.getD 0 0)).getD 2 0), .int .i64 ((sizeL (r.getD 0 0)).getD 3 0), .int .i64 ((sizeL (r.getD 0 0)).getD 4 0), .int .i64 ((sizeL (r.getD 0 0)).getD 5 0), .int .i64 ((sizeL (r.getD 0 0)).getD 6 0), .int .i64 ((sizeL (r.getD 0 0)).getD 7 0), .int .i64 ((sizeL (r.getD 0 0)).getD 8 0), .int .i64 ((sizeL (r.getD 0 0)).getD 9 0), .int .i64 ((sizeL (r.getD 0 0)).getD 10 0), .int .i64 ((sizeL (r.getD 0 0)).getD 11 0), .int .i64 ((sizeL (r.getD 0 0)).getD 12 0), .int .i64 ((sizeL (r.getD 0 0)).getD 13 0), .int .i64 ((sizeL (r.getD 0 0)).getD 14 0), .int .i64 ((sizeL (r.getD 0 0)).getD 15 0)], .bool (sizeIs (r.getD 0 0))]) (fun wc H => sizesC (r.getD 0 0) wc) rfl rfl rfl rfl ?_
   iterate 3 refine p_refEncC rfl ?_
   refine wAl rfl rfl ty_16_int fun b4 => ?_
   refine wSr rfl ty_16_int 0 rfl rfl rfl rfl [.int .i64 ((sizeL (r.getD 0 0)).getD 0 0), .int .i64 ((sizeL (r.getD 0 0)).getD 1 0), .int .i64 ((sizeL (r.getD 0 0)).getD 2 0), .int .i64 ((sizeL (r.getD 0 0)).getD 3 0), .int .i64 ((sizeL (r.getD 0 0)).getD 4 0), .int .i64 ((sizeL (r.getD 0 0)).getD 5 0), .int .i64 ((sizeL (r.getD 0 0)).getD 6 0), .int .i64 ((sizeL (r.getD 0 0)).getD 7 0), .int .i64 ((sizeL (r.getD 0 0)).getD 8 0), .int .i64 ((sizeL (r.getD 0 0)).getD 9 0), .int .i64 ((sizeL (r.getD 0 0)).getD 10 0), .int .i64 ((sizeL (r.getD 0 0)).getD 11 0), .int .i64 ((sizeL (r.getD 0 0)).getD 12 0), .int .i64 ((sizeL (r.getD 0 0)).getD 13 0), .int .i64 ((sizeL (r.getD 0 0)).getD 14 0), .int .i64 ((sizeL (r.getD 0 0)).getD 15 0)] (by first | rfl | (simp only [spl]; rfl)) ?_
   refine p_refEncC rfl ?_
   refine wN ?_
   refine tN (wKK hK4 ?_)
   refine wSeqK fun KK5 hK5 => ?_
   refine wReg ?_
   refine p_refEncC rfl ?_
   refine wN ?_
   refine tN (wKK hK5 ?_)
   refine wSeqK fun KK6 hK6 => ?_
   refine wSeqK fun KK7 hK7 => ?_
   refine wReg ?_
   refine p_refEncC rfl ?_
   refine wN ?_
   refine tN (wKK hK7 ?_)
   refine wBlk ?_
   refine wLoop (fun ab wv => ∃ i : Nat, ∃ o : ByteArray, i ≤ 16 ∧ Hid (o = str (bytesR r i)) ∧ o.size ≤ 8 * i ∧ ab.tmps.size = 41 ∧ ab.defers = [] ∧ Sat [(0, .agg #[.int .i64 (r.getD 0 0), .int .i64 (r.getD 1 0), .int .i64 (r.getD 2 0), .int .i64 (r.getD 3 0), .int .i64 (r.getD 4 0), .int .i64 (r.getD 5 0), .int .i64 (r.getD 6 0), .int .i64 (r.getD 7 0), .int .i64 (r.getD 8 0), .int .i64 (r.getD 9 0), .int .i64 (r.getD 10 0), .int .i64 (r.getD 11 0), .int .i64 (r.getD 12 0), .int .i64 (r.getD 13 0), .int .i64 (r.getD 14 0), .int .i64 (r.getD 15 0)]), (1, .pointer (some ⟨b1, 0, none⟩)), (2, .string (⟨#[]⟩ : ByteArray)), (3, .bool false), (4, .pointer (some ⟨b4, 0, none⟩)), (6, .string o), (7, .int .i64 i), (12, .bool false)] ab ∧ Hid (Hp [] w wv [rB b4 31 [.int .i64 ((sizeL (r.getD 0 0)).getD 0 0), .int .i64 ((sizeL (r.getD 0 0)).getD 1 0), .int .i64 ((sizeL (r.getD 0 0)).getD 2 0), .int .i64 ((sizeL (r.getD 0 0)).getD 3 0), .int .i64 ((sizeL (r.getD 0 0)).getD 4 0), .int .i64 ((sizeL (r.getD 0 0)).getD 5 0), .int .i64 ((sizeL (r.getD 0 0)).getD 6 0), .int .i64 ((sizeL (r.getD 0 0)).getD 7 0), .int .i64 ((sizeL (r.getD 0 0)).getD 8 0), .int .i64 ((sizeL (r.getD 0 0)).getD 9 0), .int .i64 ((sizeL (r.getD 0 0)).getD 10 0), .int .i64 ((sizeL (r.getD 0 0)).getD 11 0), .int .i64 ((sizeL (r.getD 0 0)).getD 12 0), .int .i64 ((sizeL (r.getD 0 0)).getD 13 0), .int .i64 ((sizeL (r.getD 0 0)).getD 14 0), .int .i64 ((sizeL (r.getD 0 0)).getD 15 0)], rB b1 32 [.int .i64 (r.getD 0 0), .int .i64 (r.getD 1 0), .int .i64 (r.getD 2 0), .int .i64 (r.getD 3 0), .int .i64 (r.getD 4 0), .int .i64 (r.getD 5 0), .int .i64 (r.getD 6 0), .int .i64 (r.getD 7 0), .int .i64 (r.getD 8 0), .int .i64 (r.getD 9 0), .int .i64 (r.getD 10 0), .int .i64 (r.getD 11 0), .int .i64 (r.getD 12 0), .int .i64 (r.getD 13 0), .int .i64 (r.getD 14 0), .int .i64 (r.getD 15 0)]])) (fun ab _ => 16 - (intOf (ab.eval (.tmp 7))).toNat) (fun aa ww nn dd hs H => ⟨0, ⟨#[]⟩, (by omega), (Lib.hid rfl), (Nat.zero_le _), nn, dd, (sat_sub ⟨rfl, rfl, rfl, rfl, rfl, rfl, rfl, rfl, trivial⟩ hs), H⟩) ?_
   rintro a1 wv ⟨i, o, hi, ho, hos, nn, dd, hs, H⟩
   have mu1_7 := hs 7 _ rfl
   refine wIn nn dd hs H ?_
   clear nn dd hs H
   refine wSeqK fun KK8 hK8 => ?_
   refine wSeqK fun KK9 hK9 => ?_
   refine wReg ?_
   iterate 2 refine p_refEncC rfl ?_
   refine wN ?_
   refine tN (wKK hK9 ?_)
   refine wCond (E := decide ((i : Int) < 16)) rfl (fun z2 => ?_) (fun z2 => ?_)
   · skip
     have z2d : (i : Int) < 16 := of_decide_eq_true z2
     refine wSk ?_
     refine tN (wKK hK8 ?_)
     refine wSeqK fun KK10 hK10 => ?_
     refine wBlk ?_
     refine wSeqK fun KK11 hK11 => ?_
     rcases Bool.eq_false_or_eq_true (decide (0 < (sizeL (r.getD 0 0)).getD i 0)) with y3 | y3
     · skip
       have y3d : 0 < (sizeL (r.getD 0 0)).getD i 0 := of_decide_eq_true y3
       refine wReg ?_
       refine p_refEncC rfl ?_
       refine wE (.pointer (some ⟨b4, i, none⟩)) rfl rfl rfl (fun aa ww hs _ => by have e4 := hs 4 _ rfl; have g4 := gt_of e4; have e23 := hs 23 _ rfl; have g23 := gt_of e23; simp only [execOp]; go_simp <;> omega) ?_
       refine wX 25 (.int .i64 ((sizeL (r.getD 0 0)).getD i 0)) rfl (fun aa ww KK hs H _ hk => hpA_load1 tyint H rfl (hs _ _ rfl) (wnt_ok hs rfl) (by (repeat (first | exact List.Mem.head _ | apply List.Mem.tail))) (get16 (sizeL (r.getD 0 0)) (by omega)) hk) ?_
       refine p_refEncC rfl ?_
       refine wB 26 rfl y3 ?_
       refine wN ?_
       refine tN (wKK hK11 ?_)
       refine wCt rfl ?_
       refine wSeqK fun KK12 hK12 => ?_
       intro aa ww nn dd hs H
       have hps := y3
       have hrs := rn_size ((sizeL (r.getD 0 0)).getD i 0) (r.getD i 0)
       have hrs2 : (refNumV ((sizeL (r[0]?.getD 0))[i]?.getD 0) (r[i]?.getD 0)).1.size ≤ 8 := by simpa only [List.getD_eq_getElem?_getD] using hrs
       refine wIn nn dd hs H ?_
       intro aa ww nn dd hs H
       refine refEncC_r9 r b1 hg b4 i o hi hos z2d y3d hps hrs hrs2 H aa nn (hs 1 _ rfl) (hs 4 _ rfl) (hs 7 _ rfl) ?_
       intro ab wv nn2 dd2 kp o8 H2
       refine wIn nn2 (dd2.trans dd) (Sat.cons (Sat.cons (Sat.cons (Sat.cons (Sat.cons (Sat.cons (Sat.cons (Sat.cons (Sat.cons (Sat.cons (Sat.cons (sat_nil ab) ((kp 26 rfl).trans (hs 26 _ rfl))) ((kp 20 rfl).trans (hs 20 _ rfl))) ((kp 12 rfl).trans (hs 12 _ rfl))) ((kp 7 rfl).trans (hs 7 _ rfl))) ((kp 6 rfl).trans (hs 6 _ rfl))) ((kp 4 rfl).trans (hs 4 _ rfl))) ((kp 3 rfl).trans (hs 3 _ rfl))) ((kp 2 rfl).trans (hs 2 _ rfl))) ((kp 1 rfl).trans (hs 1 _ rfl))) ((kp 0 rfl).trans (hs 0 _ rfl))) o8) H2 ?_
       clear hs H kp H2 dd dd2 nn nn2 o8
       refine tN (wKK hK12 ?_)
       refine wReg ?_
       iterate 2 refine p_refEncC rfl ?_
       refine wE (.string (o ++ ((refNumV ((sizeL (r.getD 0 0)).getD i 0) (r.getD i 0)).1))) rfl rfl rfl (fun aa ww hs _ => by have e37 := hs 37 _ rfl; have g37 := gt_of e37; have e38 := hs 38 _ rfl; have g38 := gt_of e38; simp only [execOp]; go_simp <;> omega) ?_
       refine p_refEncC rfl ?_
       refine wN ?_
       refine bN (tN (wKK hK10 ?_))
       refine wReg ?_
       iterate 2 refine p_refEncC rfl ?_
       refine wI 22 rfl (IntWalk.i64_in _ (by omega)) ?_
       refine p_refEncC rfl ?_
       refine wN ?_
       refine tN ?_
       intro aa ww nn dd hs H
       refine ⟨⟨i + 1, o ++ ((refNumV ((sizeL (r.getD 0 0)).getD i 0) (r.getD i 0)).1), (by omega), (Lib.hid (by rw [ho.out]; exact bytes_yes hg (by omega) y3)), (by first | omega | (rw [ByteArray.size_append]; omega)), nn, dd, (sat_sub ⟨rfl, rfl, rfl, rfl, rfl, rfl, rfl, rfl, trivial⟩ hs), H⟩, ?_⟩
       have m7 := hs 7 _ rfl
       simp only [mu1_7, m7, intOf]
       omega
     · skip
       have y3d : ¬ (0 < ((sizeL (r.getD 0 0)).getD i 0)) := of_decide_eq_false y3
       refine wReg ?_
       refine p_refEncC rfl ?_
       refine wE (.pointer (some ⟨b4, i, none⟩)) rfl rfl rfl (fun aa ww hs _ => by have e4 := hs 4 _ rfl; have g4 := gt_of e4; have e23 := hs 23 _ rfl; have g23 := gt_of e23; simp only [execOp]; go_simp <;> omega) ?_
       refine wX 25 (.int .i64 ((sizeL (r.getD 0 0)).getD i 0)) rfl (fun aa ww KK hs H _ hk => hpA_load1 tyint H rfl (hs _ _ rfl) (wnt_ok hs rfl) (by (repeat (first | exact List.Mem.head _ | apply List.Mem.tail))) (get16 (sizeL (r.getD 0 0)) (by omega)) hk) ?_
       refine p_refEncC rfl ?_
       refine wB 26 rfl y3 ?_
       refine wN ?_
       refine tN (wKK hK11 ?_)
       refine wCf rfl ?_
       refine wSk ?_
       refine bN (tN (wKK hK10 ?_))
       refine wReg ?_
       iterate 2 refine p_refEncC rfl ?_
       refine wI 22 rfl (IntWalk.i64_in _ (by omega)) ?_
       refine p_refEncC rfl ?_
       refine wN ?_
       refine tN ?_
       intro aa ww nn dd hs H
       refine ⟨⟨i + 1, o, (by omega), (Lib.hid (by rw [ho.out]; exact bytes_no y3)), (by first | omega | (rw [ByteArray.size_append]; omega)), nn, dd, (sat_sub ⟨rfl, rfl, rfl, rfl, rfl, rfl, rfl, rfl, trivial⟩ hs), H⟩, ?_⟩
       have m7 := hs 7 _ rfl
       simp only [mu1_7, m7, intOf]
       omega
   · skip
     have z2d : ¬ ((i : Int) < 16) := of_decide_eq_false z2
     refine wEx ?_
     refine tX (tX (bX (tN (wKK hK6 ?_))))
     refine wSeqK fun KK13 hK13 => ?_
     refine wReg ?_
     iterate 3 refine p_refEncC rfl ?_
     refine wN ?_
     refine tN (wKK hK13 ?_)
     refine wRet ?_
     exact wR2 rfl rfl rfl (fun ww H => ⟨by rw [← enc_yes hg, ho.out, show i = 16 by omega, hg], H.out.off⟩)
 · skip
   refine wReg ?_
   refine wLr rfl tyhoistwayref14_Request 0 rfl [.int .i64 (r.getD 0 0), .int .i64 (r.getD 1 0), .int .i64 (r.getD 2 0), .int .i64 (r.getD 3 0), .int .i64 (r.getD 4 0), .int .i64 (r.getD 5 0), .int .i64 (r.getD 6 0), .int .i64 (r.getD 7 0), .int .i64 (r.getD 8 0), .int .i64 (r.getD 9 0), .int .i64 (r.getD 10 0), .int .i64 (r.getD 11 0), .int .i64 (r.getD 12 0), .int .i64 (r.getD 13 0), .int .i64 (r.getD 14 0), .int .i64 (r.getD 15 0)] rfl rfl ?_
   refine wQ (l := [.agg #[.int .i64 (r.getD 0 0), .int .i64 (r.getD 1 0), .int .i64 (r.getD 2 0), .int .i64 (r.getD 3 0), .int .i64 (r.getD 4 0), .int .i64 (r.getD 5 0), .int .i64 (r.getD 6 0), .int .i64 (r.getD 7 0), .int .i64 (r.getD 8 0), .int .i64 (r.getD 9 0), .int .i64 (r.getD 10 0), .int .i64 (r.getD 11 0), .int .i64 (r.getD 12 0), .int .i64 (r.getD 13 0), .int .i64 (r.getD 14 0), .int .i64 (r.getD 15 0)]]) Try.func26 rfl (by kernel_rfl) (.bool false) (fun wc H => by have h := goodC r wc; rw [y1] at h; exact h) rfl rfl rfl rfl ?_
   refine p_refEncC rfl ?_
   refine wN ?_
   refine tN (wKK hK3 ?_)
   refine wCt rfl ?_
   refine wSeqK fun KK14 hK14 => ?_
   refine wReg ?_
   iterate 2 refine p_refEncC rfl ?_
   refine wN ?_
   refine tN (wKK hK14 ?_)
   refine wRet ?_
   refine tR ?_
   exact wR2 rfl rfl rfl (fun ww H => ⟨by rw [enc_no y1, y1], H.out.off⟩)
theorem idx_le (s : ByteArray) (i : Nat) : 0 ≤ idxB s i ∧ idxB s i ≤ 255 := by
  unfold idxB
  rw [List.getD_eq_getElem?_getD, List.getElem?_map]
  cases s.data.toList[i]? with
  | none => simp
  | some c =>
    have := c.toNat_lt
    simp
    omega
def tab_refDecC : Wk.Tab := []
theorem p_refDecC {ops : Array Oper} {rest : List Oper} {o : Oper} {w0 : World} {Q : Exit → Act → World → Prop} {S : List Nat} {R : List Res} {K K' : Wk.Env} {N : Nat} (h : Wk.stp tab_refDecC N ops K o = some K') (n : Wk.Wk N S w0 K' R (wpList Try.prog ops Q rest)) : Wk.Wk N S w0 K R (wpList Try.prog ops Q (o :: rest)) := Wk.wP (T := tab_refDecC) (by kernel_rfl) h n
set_option maxHeartbeats 4000000 in
set_option maxRecDepth 20000 in
theorem refDecC_r11 (s : ByteArray) (hib : 0 ≤ idxB s 0 ∧ idxB s 0 ≤ 255) (hwi : IntKind.i64.wrap (idxB s 0) = idxB s 0) (b2 : Nat) (b4 : Nat) (z1d : ¬ ((s.size : Int) < 5)) (b5 : Nat) (b23 : Nat) (i : Nat) (r : List Int) (sl : ByteArray) (vl : Bool) (hi : i ≤ 16) (hrl : r.length = 16) (z2d : ¬ ((i : Int) < 16)) {wa wb : World} (H : Hid (Hp [] wa wb [rB b23 96 [.string sl, .bool vl], rB b5 31 [.int .i64 ((sizeL (idxB s 0)).getD 0 0), .int .i64 ((sizeL (idxB s 0)).getD 1 0), .int .i64 ((sizeL (idxB s 0)).getD 2 0), .int .i64 ((sizeL (idxB s 0)).getD 3 0), .int .i64 ((sizeL (idxB s 0)).getD 4 0), .int .i64 ((sizeL (idxB s 0)).getD 5 0), .int .i64 ((sizeL (idxB s 0)).getD 6 0), .int .i64 ((sizeL (idxB s 0)).getD 7 0), .int .i64 ((sizeL (idxB s 0)).getD 8 0), .int .i64 ((sizeL (idxB s 0)).getD 9 0), .int .i64 ((sizeL (idxB s 0)).getD 10 0), .int .i64 ((sizeL (idxB s 0)).getD 11 0), .int .i64 ((sizeL (idxB s 0)).getD 12 0), .int .i64 ((sizeL (idxB s 0)).getD 13 0), .int .i64 ((sizeL (idxB s 0)).getD 14 0), .int .i64 ((sizeL (idxB s 0)).getD 15 0)], rB b4 32 [.int .i64 (r.getD 0 0), .int .i64 (r.getD 1 0), .int .i64 (r.getD 2 0), .int .i64 (r.getD 3 0), .int .i64 (r.getD 4 0), .int .i64 (r.getD 5 0), .int .i64 (r.getD 6 0), .int .i64 (r.getD 7 0), .int .i64 (r.getD 8 0), .int .i64 (r.getD 9 0), .int .i64 (r.getD 10 0), .int .i64 (r.getD 11 0), .int .i64 (r.getD 12 0), .int .i64 (r.getD 13 0), .int .i64 (r.getD 14 0), .int .i64 (r.getD 15 0)], rB b2 32 [.int .i64 0, .int .i64 0, .int .i64 0, .int .i64 0, .int .i64 0, .int .i64 0, .int .i64 0, .int .i64 0, .int .i64 0, .int .i64 0, .int .i64 0, .int .i64 0, .int .i64 0, .int .i64 0, .int .i64 0, .int .i64 0]])) (ac0 : Act) (hz : ac0.tmps.size = 62) (so4 : ac0.eval (.tmp 4) = .pointer (some ⟨b4, 0, none⟩)) (so6 : ac0.eval (.tmp 6) = .bool (sizeIs (idxB s 0))) (so7 : ac0.eval (.tmp 7) = .pointer (some ⟨b23, 0, none⟩)) {QR : Exit → Act → World → Prop} (hfin : ∀ (ac1 : Act) (wz : World), ac1.tmps.size = 62 → ac1.defers = ac0.defers → (∀ t, ([39, 40, 41, 42, 43, 44, 45, 46, 47, 48, 49, 50, 51, 52, 53, 54, 55, 56, 57, 58, 59] : List Nat).contains t = false → ac1.eval (.tmp t) = ac0.eval (.tmp t)) → ac1.eval (.tmp 59) = .bool ((((!(sizeIs (idxB s 0))) || vl) || (decide (0 < (sl.size : Int)))) || (!(goodR r))) →  Hid (Hp [] wa wz [rB b23 96 [.string sl, .bool vl], rB b5 31 [.int .i64 ((sizeL (idxB s 0)).getD 0 0), .int .i64 ((sizeL (idxB s 0)).getD 1 0), .int .i64 ((sizeL (idxB s 0)).getD 2 0), .int .i64 ((sizeL (idxB s 0)).getD 3 0), .int .i64 ((sizeL (idxB s 0)).getD 4 0), .int .i64 ((sizeL (idxB s 0)).getD 5 0), .int .i64 ((sizeL (idxB s 0)).getD 6 0), .int .i64 ((sizeL (idxB s 0)).getD 7 0), .int .i64 ((sizeL (idxB s 0)).getD 8 0), .int .i64 ((sizeL (idxB s 0)).getD 9 0), .int .i64 ((sizeL (idxB s 0)).getD 10 0), .int .i64 ((sizeL (idxB s 0)).getD 11 0), .int .i64 ((sizeL (idxB s 0)).getD 12 0), .int .i64 ((sizeL (idxB s 0)).getD 13 0), .int .i64 ((sizeL (idxB s 0)).getD 14 0), .int .i64 ((sizeL (idxB s 0)).getD 15 0)], rB b4 32 [.int .i64 (r.getD 0 0), .int .i64 (r.getD 1 0), .int .i64 (r.getD 2 0), .int .i64 (r.getD 3 0), .int .i64 (r.getD 4 0), .int .i64 (r.getD 5 0), .int .i64 (r.getD 6 0), .int .i64 (r.getD 7 0), .int .i64 (r.getD 8 0), .int .i64 (r.getD 9 0), .int .i64 (r.getD 10 0), .int .i64 (r.getD 11 0), .int .i64 (r.getD 12 0), .int .i64 (r.getD 13 0), .int .i64 (r.getD 14 0), .int .i64 (r.getD 15 0)], rB b2 32 [.int .i64 0, .int .i64 0, .int .i64 0, .int .i64 0, .int .i64 0, .int .i64 0, .int .i64 0, .int .i64 0, .int .i64 0, .int .i64 0, .int .i64 0, .int .i64 0, .int .i64 0, .int .i64 0, .int .i64 0, .int .i64 0]]) → QR .normal ac1 wz) : (regAt Try.f16 11).wp Try.prog QR ac0 wb := by
  refine wp_region_sq (by kernel_rfl) 62 hz (by kernel_rfl) (fun (xx : Unit) jx => nth [.bool (sizeIs (idxB s 0)), .bool (!(sizeIs (idxB s 0))), .bool (!(sizeIs (idxB s 0))), bif !(!(sizeIs (idxB s 0))) then .pointer (some ⟨b23, 0, none⟩) else undef, bif !(!(sizeIs (idxB s 0))) then .pointer (some ⟨b23, 0, none⟩) else undef, bif !(!(sizeIs (idxB s 0))) then .pointer (some ⟨b23, 1, none⟩) else undef, bif !(!(sizeIs (idxB s 0))) then .bool vl else undef, .bool ((!(sizeIs (idxB s 0))) || vl), .bool ((!(sizeIs (idxB s 0))) || vl), bif !((!(sizeIs (idxB s 0))) || vl) then .pointer (some ⟨b23, 0, none⟩) else undef, bif !((!(sizeIs (idxB s 0))) || vl) then .pointer (some ⟨b23, 0, none⟩) else undef, bif !((!(sizeIs (idxB s 0))) || vl) then .pointer (some ⟨b23, 0, none⟩) else undef, bif !((!(sizeIs (idxB s 0))) || vl) then .string sl else undef, bif !((!(sizeIs (idxB s 0))) || vl) then .int .i64 sl.size else undef, bif !((!(sizeIs (idxB s 0))) || vl) then .bool (decide (0 < (sl.size : Int))) else undef, .bool (((!(sizeIs (idxB s 0))) || vl) || (decide (0 < (sl.size : Int)))), .bool (((!(sizeIs (idxB s 0))) || vl) || (decide (0 < (sl.size : Int)))), bif !(((!(sizeIs (idxB s 0))) || vl) || (decide (0 < (sl.size : Int)))) then .agg #[.int .i64 (r.getD 0 0), .int .i64 (r.getD 1 0), .int .i64 (r.getD 2 0), .int .i64 (r.getD 3 0), .int .i64 (r.getD 4 0), .int .i64 (r.getD 5 0), .int .i64 (r.getD 6 0), .int .i64 (r.getD 7 0), .int .i64 (r.getD 8 0), .int .i64 (r.getD 9 0), .int .i64 (r.getD 10 0), .int .i64 (r.getD 11 0), .int .i64 (r.getD 12 0), .int .i64 (r.getD 13 0), .int .i64 (r.getD 14 0), .int .i64 (r.getD 15 0)] else undef, bif !(((!(sizeIs (idxB s 0))) || vl) || (decide (0 < (sl.size : Int)))) then .bool (goodR r) else undef, bif !(((!(sizeIs (idxB s 0))) || vl) || (decide (0 < (sl.size : Int)))) then .bool (!(goodR r)) else undef, .bool ((((!(sizeIs (idxB s 0))) || vl) || (decide (0 < (sl.size : Int)))) || (!(goodR r)))] jx) (fun (LL : Nat → Bool) (xx : Unit) ww => Hp [] wa ww [rB b23 96 [.string sl, .bool vl], rB b5 31 [.int .i64 ((sizeL (idxB s 0)).getD 0 0), .int .i64 ((sizeL (idxB s 0)).getD 1 0), .int .i64 ((sizeL (idxB s 0)).getD 2 0), .int .i64 ((sizeL (idxB s 0)).getD 3 0), .int .i64 ((sizeL (idxB s 0)).getD 4 0), .int .i64 ((sizeL (idxB s 0)).getD 5 0), .int .i64 ((sizeL (idxB s 0)).getD 6 0), .int .i64 ((sizeL (idxB s 0)).getD 7 0), .int .i64 ((sizeL (idxB s 0)).getD 8 0), .int .i64 ((sizeL (idxB s 0)).getD 9 0), .int .i64 ((sizeL (idxB s 0)).getD 10 0), .int .i64 ((sizeL (idxB s 0)).getD 11 0), .int .i64 ((sizeL (idxB s 0)).getD 12 0), .int .i64 ((sizeL (idxB s 0)).getD 13 0), .int .i64 ((sizeL (idxB s 0)).getD 14 0), .int .i64 ((sizeL (idxB s 0)).getD 15 0)], rB b4 32 [.int .i64 (r.getD 0 0), .int .i64 (r.getD 1 0), .int .i64 (r.getD 2 0), .int .i64 (r.getD 3 0), .int .i64 (r.getD 4 0), .int .i64 (r.getD 5 0), .int .i64 (r.getD 6 0), .int .i64 (r.getD 7 0), .int .i64 (r.getD 8 0), .int .i64 (r.getD 9 0), .int .i64 (r.getD 10 0), .int .i64 (r.getD 11 0), .int .i64 (r.getD 12 0), .int .i64 (r.getD 13 0), .int .i64 (r.getD 14 0), .int .i64 (r.getD 15 0)], rB b2 32 [.int .i64 0, .int .i64 0, .int .i64 0, .int .i64 0, .int .i64 0, .int .i64 0, .int .i64 0, .int .i64 0, .int .i64 0, .int .i64 0, .int .i64 0, .int .i64 0, .int .i64 0, .int .i64 0, .int .i64 0, .int .i64 0]]) () H.out ?_ (steps_al ?_) ?_ ?_
  · exact fun _ _ _ _ _ h => h
  · refine al_cons ?_ (al_cons ?_ (al_cons ?_ (al_cons ?_ (al_cons ?_ (al_cons ?_ (al_cons ?_ (al_cons ?_ (al_cons ?_ (al_cons ?_ (al_cons ?_ (al_cons ?_ (al_cons ?_ (al_cons ?_ (al_cons ?_ (al_cons ?_ (al_cons ?_ (al_cons ?_ (al_cons ?_ (al_cons ?_ (al_cons ?_ (al_nil)))))))))))))))))))))
    · intro LL xx ac wc sg hst hwant QQ hgo
      exact op_val hwant hgo hst _ (exec_move rfl ((sg.free 6 (by kernel_rfl)).trans so6)) rfl
    · intro LL xx ac wc sg hst hwant QQ hgo
      have se39 : ac.eval (.tmp 39) = _ := (sg.slot 0 (sg.anc 0 rfl))
      have sg39 := gt_of se39
      (try simp only [nth] at se39 sg39)
      exact op_val hwant hgo hst _ (by simp only [execOp, nth]; go_simp <;> omega) rfl
    · intro LL xx ac wc sg hst hwant QQ hgo
      exact op_val hwant hgo hst _ (exec_move rfl (sg.slot 1 (sg.anc 1 rfl))) rfl
    · intro LL xx ac wc sg hst hwant QQ hgo
      have hG : (!(!(sizeIs (idxB s 0)))) = true := (want_f rfl rfl (sg.slot 2 (sg.anc 2 rfl))).symm.trans hwant
      exact op_val hwant hgo hst _ (exec_move rfl ((sg.free 7 (by kernel_rfl)).trans so7)) (cI hG)
    · intro LL xx ac wc sg hst hwant QQ hgo
      have hG : (!(!(sizeIs (idxB s 0)))) = true := (want_f rfl rfl (sg.slot 2 (sg.anc 2 rfl))).symm.trans hwant
      have se42 : ac.eval (.tmp 42) = _ := (cT (sg.slot 3 (sg.anc 3 rfl)) hG)
      have sg42 := gt_of se42
      (try simp only [nth] at se42 sg42)
      exact op_val hwant hgo hst _ (by simp only [execOp, nth]; go_simp <;> omega) (cI hG)
    · intro LL xx ac wc sg hst hwant QQ hgo
      have hG : (!(!(sizeIs (idxB s 0)))) = true := (want_f rfl rfl (sg.slot 2 (sg.anc 2 rfl))).symm.trans hwant
      have se43 : ac.eval (.tmp 43) = _ := (cT (sg.slot 4 (sg.anc 4 rfl)) hG)
      have sg43 := gt_of se43
      (try simp only [nth] at se43 sg43)
      exact op_val hwant hgo hst _ (by simp only [execOp, nth]; go_simp <;> omega) (cI hG)
    · intro LL xx ac wc sg hst hwant QQ hgo
      have hG : (!(!(sizeIs (idxB s 0)))) = true := (want_f rfl rfl (sg.slot 2 (sg.anc 2 rfl))).symm.trans hwant
      have H := Lib.hid hst
      refine hpA_load1 tybool H rfl (cT (sg.slot 5 (sg.anc 5 rfl)) hG) hwant (by (repeat (first | exact List.Mem.head _ | apply List.Mem.tail))) (by rfl) ?_
      exact hgo _ () _ (fun _ _ => rfl) (cI hG) hst
    · intro LL xx ac wc sg hst hwant QQ hgo
      exact op_val hwant hgo hst (.bool ((!(sizeIs (idxB s 0))) || vl)) (exec_or (Y := vl) rfl (sg.slot 2 (sg.anc 2 rfl)) (fun qq => cT (sg.slot 6 (sg.anc 6 rfl)) (bk qq))) rfl
    · intro LL xx ac wc sg hst hwant QQ hgo
      exact op_val hwant hgo hst _ (exec_move rfl (sg.slot 7 (sg.anc 7 rfl))) rfl
    · intro LL xx ac wc sg hst hwant QQ hgo
      have hG : (!((!(sizeIs (idxB s 0))) || vl)) = true := (want_f rfl rfl (sg.slot 8 (sg.anc 8 rfl))).symm.trans hwant
      exact op_val hwant hgo hst _ (exec_move rfl ((sg.free 7 (by kernel_rfl)).trans so7)) (cI hG)
    · intro LL xx ac wc sg hst hwant QQ hgo
      have hG : (!((!(sizeIs (idxB s 0))) || vl)) = true := (want_f rfl rfl (sg.slot 8 (sg.anc 8 rfl))).symm.trans hwant
      have se48 : ac.eval (.tmp 48) = _ := (cT (sg.slot 9 (sg.anc 9 rfl)) hG)
      have sg48 := gt_of se48
      (try simp only [nth] at se48 sg48)
      exact op_val hwant hgo hst _ (by simp only [execOp, nth]; go_simp <;> omega) (cI hG)
    · intro LL xx ac wc sg hst hwant QQ hgo
      have hG : (!((!(sizeIs (idxB s 0))) || vl)) = true := (want_f rfl rfl (sg.slot 8 (sg.anc 8 rfl))).symm.trans hwant
      have se49 : ac.eval (.tmp 49) = _ := (cT (sg.slot 10 (sg.anc 10 rfl)) hG)
      have sg49 := gt_of se49
      (try simp only [nth] at se49 sg49)
      exact op_val hwant hgo hst _ (by simp only [execOp, nth]; go_simp <;> omega) (cI hG)
    · intro LL xx ac wc sg hst hwant QQ hgo
      have hG : (!((!(sizeIs (idxB s 0))) || vl)) = true := (want_f rfl rfl (sg.slot 8 (sg.anc 8 rfl))).symm.trans hwant
      have H := Lib.hid hst
      refine hpA_load1 tystring H rfl (cT (sg.slot 11 (sg.anc 11 rfl)) hG) hwant (by (repeat (first | exact List.Mem.head _ | apply List.Mem.tail))) (by rfl) ?_
      exact hgo _ () _ (fun _ _ => rfl) (cI hG) hst
    · intro LL xx ac wc sg hst hwant QQ hgo
      have hG : (!((!(sizeIs (idxB s 0))) || vl)) = true := (want_f rfl rfl (sg.slot 8 (sg.anc 8 rfl))).symm.trans hwant
      have se51 : ac.eval (.tmp 51) = _ := (cT (sg.slot 12 (sg.anc 12 rfl)) hG)
      have sg51 := gt_of se51
      (try simp only [nth] at se51 sg51)
      exact op_val hwant hgo hst _ (by simp only [execOp, nth]; go_simp <;> omega) (cI hG)
    · intro LL xx ac wc sg hst hwant QQ hgo
      have hG : (!((!(sizeIs (idxB s 0))) || vl)) = true := (want_f rfl rfl (sg.slot 8 (sg.anc 8 rfl))).symm.trans hwant
      have se52 : ac.eval (.tmp 52) = _ := (cT (sg.slot 13 (sg.anc 13 rfl)) hG)
      have sg52 := gt_of se52
      (try simp only [nth] at se52 sg52)
      exact op_val hwant hgo hst _ (by simp only [execOp, nth]; go_simp <;> omega) (cI hG)
    · intro LL xx ac wc sg hst hwant QQ hgo
      exact op_val hwant hgo hst (.bool (((!(sizeIs (idxB s 0))) || vl) || (decide (0 < (sl.size : Int))))) (exec_or (Y := decide (0 < (sl.size : Int))) rfl (sg.slot 8 (sg.anc 8 rfl)) (fun qq => cT (sg.slot 14 (sg.anc 14 rfl)) (bk qq))) rfl
    · intro LL xx ac wc sg hst hwant QQ hgo
      exact op_val hwant hgo hst _ (exec_move rfl (sg.slot 15 (sg.anc 15 rfl))) rfl
    · intro LL xx ac wc sg hst hwant QQ hgo
      have hG : (!(((!(sizeIs (idxB s 0))) || vl) || (decide (0 < (sl.size : Int))))) = true := (want_f rfl rfl (sg.slot 16 (sg.anc 16 rfl))).symm.trans hwant
      have H := Lib.hid hst
      refine hpA_load tyhoistwayref14_Request H rfl ((sg.free 4 (by kernel_rfl)).trans so4) hwant (by (repeat (first | exact List.Mem.head _ | apply List.Mem.tail))) (by rfl) rfl ?_
      exact hgo _ () _ (fun _ _ => rfl) (cI hG) hst
    · intro LL xx ac wc sg hst hwant QQ hgo
      have hG : (!(((!(sizeIs (idxB s 0))) || vl) || (decide (0 < (sl.size : Int))))) = true := (want_f rfl rfl (sg.slot 16 (sg.anc 16 rfl))).symm.trans hwant
      have se56 : ac.eval (.tmp 56) = _ := (cT (sg.slot 17 (sg.anc 17 rfl)) hG)
      have sg56 := gt_of se56
      (try simp only [nth] at se56 sg56)
      refine op_call hwant hgo 26 #[.agg #[.int .i64 (r.getD 0 0), .int .i64 (r.getD 1 0), .int .i64 (r.getD 2 0), .int .i64 (r.getD 3 0), .int .i64 (r.getD 4 0), .int .i64 (r.getD 5 0), .int .i64 (r.getD 6 0), .int .i64 (r.getD 7 0), .int .i64 (r.getD 8 0), .int .i64 (r.getD 9 0), .int .i64 (r.getD 10 0), .int .i64 (r.getD 11 0), .int .i64 (r.getD 12 0), .int .i64 (r.getD 13 0), .int .i64 (r.getD 14 0), .int .i64 (r.getD 15 0)]] (by simp only [execOp]; go_simp) (goodC r wc) ?_
      rintro er wd ⟨rfl, hof⟩
      exact ⟨_, (), rfl, fun _ _ => rfl, (cI hG), Hp.quiet hst hof⟩
    · intro LL xx ac wc sg hst hwant QQ hgo
      have hG : (!(((!(sizeIs (idxB s 0))) || vl) || (decide (0 < (sl.size : Int))))) = true := (want_f rfl rfl (sg.slot 16 (sg.anc 16 rfl))).symm.trans hwant
      have se57 : ac.eval (.tmp 57) = _ := (cT (sg.slot 18 (sg.anc 18 rfl)) hG)
      have sg57 := gt_of se57
      (try simp only [nth] at se57 sg57)
      exact op_val hwant hgo hst _ (by simp only [execOp, nth]; go_simp <;> omega) (cI hG)
    · intro LL xx ac wc sg hst hwant QQ hgo
      exact op_val hwant hgo hst (.bool ((((!(sizeIs (idxB s 0))) || vl) || (decide (0 < (sl.size : Int)))) || (!(goodR r)))) (exec_or (Y := !(goodR r)) rfl (sg.slot 16 (sg.anc 16 rfl)) (fun qq => cT (sg.slot 19 (sg.anc 19 rfl)) (bk qq))) rfl
  · refine skips [3, 4, 5, 6, 9, 10, 11, 12, 13, 14, 17, 18, 19] (by kernel_rfl) ?_
    refine List.forall_mem_cons.2 ⟨?_, List.forall_mem_cons.2 ⟨?_, List.forall_mem_cons.2 ⟨?_, List.forall_mem_cons.2 ⟨?_, List.forall_mem_cons.2 ⟨?_, List.forall_mem_cons.2 ⟨?_, List.forall_mem_cons.2 ⟨?_, List.forall_mem_cons.2 ⟨?_, List.forall_mem_cons.2 ⟨?_, List.forall_mem_cons.2 ⟨?_, List.forall_mem_cons.2 ⟨?_, List.forall_mem_cons.2 ⟨?_, List.forall_mem_cons.2 ⟨?_, fun _ h => by cases h⟩⟩⟩⟩⟩⟩⟩⟩⟩⟩⟩⟩⟩
    · intro oo hop LL xx ac sg hwant
      cases Option.some.inj hop
      have hG : (!(!(sizeIs (idxB s 0)))) = false := (want_f rfl rfl (sg.slot 2 (sg.anc 2 rfl))).symm.trans hwant
      exact ⟨cF hG, fun _ h => h⟩
    · intro oo hop LL xx ac sg hwant
      cases Option.some.inj hop
      have hG : (!(!(sizeIs (idxB s 0)))) = false := (want_f rfl rfl (sg.slot 2 (sg.anc 2 rfl))).symm.trans hwant
      exact ⟨cF hG, fun _ h => h⟩
    · intro oo hop LL xx ac sg hwant
      cases Option.some.inj hop
      have hG : (!(!(sizeIs (idxB s 0)))) = false := (want_f rfl rfl (sg.slot 2 (sg.anc 2 rfl))).symm.trans hwant
      exact ⟨cF hG, fun _ h => h⟩
    · intro oo hop LL xx ac sg hwant
      cases Option.some.inj hop
      have hG : (!(!(sizeIs (idxB s 0)))) = false := (want_f rfl rfl (sg.slot 2 (sg.anc 2 rfl))).symm.trans hwant
      exact ⟨cF hG, fun _ h => h⟩
    · intro oo hop LL xx ac sg hwant
      cases Option.some.inj hop
      have hG : (!((!(sizeIs (idxB s 0))) || vl)) = false := (want_f rfl rfl (sg.slot 8 (sg.anc 8 rfl))).symm.trans hwant
      exact ⟨cF hG, fun _ h => h⟩
    · intro oo hop LL xx ac sg hwant
      cases Option.some.inj hop
      have hG : (!((!(sizeIs (idxB s 0))) || vl)) = false := (want_f rfl rfl (sg.slot 8 (sg.anc 8 rfl))).symm.trans hwant
      exact ⟨cF hG, fun _ h => h⟩
    · intro oo hop LL xx ac sg hwant
      cases Option.some.inj hop
      have hG : (!((!(sizeIs (idxB s 0))) || vl)) = false := (want_f rfl rfl (sg.slot 8 (sg.anc 8 rfl))).symm.trans hwant
      exact ⟨cF hG, fun _ h => h⟩
    · intro oo hop LL xx ac sg hwant
      cases Option.some.inj hop
      have hG : (!((!(sizeIs (idxB s 0))) || vl)) = false := (want_f rfl rfl (sg.slot 8 (sg.anc 8 rfl))).symm.trans hwant
      exact ⟨cF hG, fun _ h => h⟩
    · intro oo hop LL xx ac sg hwant
      cases Option.some.inj hop
      have hG : (!((!(sizeIs (idxB s 0))) || vl)) = false := (want_f rfl rfl (sg.slot 8 (sg.anc 8 rfl))).symm.trans hwant
      exact ⟨cF hG, fun _ h => h⟩
    · intro oo hop LL xx ac sg hwant
      cases Option.some.inj hop
      have hG : (!((!(sizeIs (idxB s 0))) || vl)) = false := (want_f rfl rfl (sg.slot 8 (sg.anc 8 rfl))).symm.trans hwant
      exact ⟨cF hG, fun _ h => h⟩
    · intro oo hop LL xx ac sg hwant
      cases Option.some.inj hop
      have hG : (!(((!(sizeIs (idxB s 0))) || vl) || (decide (0 < (sl.size : Int))))) = false := (want_f rfl rfl (sg.slot 16 (sg.anc 16 rfl))).symm.trans hwant
      exact ⟨cF hG, fun _ h => h⟩
    · intro oo hop LL xx ac sg hwant
      cases Option.some.inj hop
      have hG : (!(((!(sizeIs (idxB s 0))) || vl) || (decide (0 < (sl.size : Int))))) = false := (want_f rfl rfl (sg.slot 16 (sg.anc 16 rfl))).symm.trans hwant
      exact ⟨cF hG, fun _ h => h⟩
    · intro oo hop LL xx ac sg hwant
      cases Option.some.inj hop
      have hG : (!(((!(sizeIs (idxB s 0))) || vl) || (decide (0 < (sl.size : Int))))) = false := (want_f rfl rfl (sg.slot 16 (sg.anc 16 rfl))).symm.trans hwant
      exact ⟨cF hG, fun _ h => h⟩
  · intro xx ac1 wz hfr hsl hst
    exact hfin ac1 wz (hfr.size.trans hz) hfr.defers (fr_keep hfr [39, 40, 41, 42, 43, 44, 45, 46, 47, 48, 49, 50, 51, 52, 53, 54, 55, 56, 57, 58, 59] (by kernel_rfl)) (hsl 20 (by decide)) (Lib.hid hst)
set_option maxHeartbeats 16000000 in
set_option maxRecDepth 20000 in
theorem refDecC (s : ByteArray) (w : World) : Calls Try.prog 16 #[.string s] w fun e w' => e = .returned (.tuple #[.agg #[.int .i64 ((decL s).getD 0 0), .int .i64 ((decL s).getD 1 0), .int .i64 ((decL s).getD 2 0), .int .i64 ((decL s).getD 3 0), .int .i64 ((decL s).getD 4 0), .int .i64 ((decL s).getD 5 0), .int .i64 ((decL s).getD 6 0), .int .i64 ((decL s).getD 7 0), .int .i64 ((decL s).getD 8 0), .int .i64 ((decL s).getD 9 0), .int .i64 ((decL s).getD 10 0), .int .i64 ((decL s).getD 11 0), .int .i64 ((decL s).getD 12 0), .int .i64 ((decL s).getD 13 0), .int .i64 ((decL s).getD 14 0), .int .i64 ((decL s).getD 15 0)], .bool (decOk s)]) ∧ Off [] w w' := by
 have H := Lib.hid (Hp.start [] w)
 refine wStart (args := [.string s]) Try.func16 rfl rfl rfl H ?_
 clear H
 show Wk 62 _ _ [(0, .string s)] _ _
 have hib : 0 ≤ idxB s 0 ∧ idxB s 0 ≤ 255 := idx_le s 0
 have hwi : IntKind.i64.wrap (idxB s 0) = idxB s 0 := IntWalk.i64_in _ (by omega)
 refine wSeqK fun KK1 hK1 => ?_
 refine wReg ?_
 refine wAl rfl rfl tyhoistwayref14_Request fun b2 => ?_
 refine p_refDecC rfl ?_
 refine wN ?_
 refine tN (wKK hK1 ?_)
 refine wSeqK fun KK2 hK2 => ?_
 refine wReg ?_
 refine wE (.agg #[.int .i64 0, .int .i64 0, .int .i64 0, .int .i64 0, .int .i64 0, .int .i64 0, .int .i64 0, .int .i64 0, .int .i64 0, .int .i64 0, .int .i64 0, .int .i64 0, .int .i64 0, .int .i64 0, .int .i64 0, .int .i64 0]) rfl rfl rfl (fun aa ww hs _ => by simp only [execOp]; go_simp <;> omega) ?_
 refine wAl rfl rfl tyhoistwayref14_Request fun b4 => ?_
 refine wSr rfl tyhoistwayref14_Request 0 rfl rfl rfl rfl [.int .i64 0, .int .i64 0, .int .i64 0, .int .i64 0, .int .i64 0, .int .i64 0, .int .i64 0, .int .i64 0, .int .i64 0, .int .i64 0, .int .i64 0, .int .i64 0, .int .i64 0, .int .i64 0, .int .i64 0, .int .i64 0] (by first | rfl | (simp only [spl]; rfl)) ?_
 refine wN ?_
 refine tN (wKK hK2 ?_)
 refine wSeqK fun KK3 hK3 => ?_
 refine wSeqK fun KK4 hK4 => ?_
 refine wReg ?_
 refine p_refDecC rfl ?_
 refine wE (.int .i64 s.size) rfl rfl rfl (fun aa ww hs _ => by have e10 := hs 10 _ rfl; have g10 := gt_of e10; simp only [execOp]; go_simp <;> omega) ?_
 refine p_refDecC rfl ?_
 refine wN ?_
 refine tN (wKK hK4 ?_)
 refine wCond (E := decide ((s.size : Int) < 5)) rfl (fun z1 => ?_) (fun z1 => ?_)
 · skip
   have z1d : (s.size : Int) < 5 := of_decide_eq_true z1
   refine wSeqK fun KK5 hK5 => ?_
   refine wReg ?_
   refine wLr rfl tyhoistwayref14_Request 0 rfl [.int .i64 0, .int .i64 0, .int .i64 0, .int .i64 0, .int .i64 0, .int .i64 0, .int .i64 0, .int .i64 0, .int .i64 0, .int .i64 0, .int .i64 0, .int .i64 0, .int .i64 0, .int .i64 0, .int .i64 0, .int .i64 0] rfl rfl ?_
   refine wSr rfl tyhoistwayref14_Request 1 rfl rfl rfl rfl [.int .i64 0, .int .i64 0, .int .i64 0, .int .i64 0, .int .i64 0, .int .i64 0, .int .i64 0, .int .i64 0, .int .i64 0, .int .i64 0, .int .i64 0, .int .i64 0, .int .i64 0, .int .i64 0, .int .i64 0, .int .i64 0] (by first | rfl | (simp only [spl]; rfl)) ?_
   refine p_refDecC rfl ?_
   refine wN ?_
   refine tN (wKK hK5 ?_)
   refine wRet ?_
   refine tR ?_
   exact wRct tyhoistwayref14_Request rfl rfl rfl 1 rfl rfl (fun ww H => (by have hd := dec_short z1; exact ⟨by rw [dec_none hd, hd]; rfl, H.out.off⟩))
 · skip
   have z1d : ¬ ((s.size : Int) < 5) := of_decide_eq_false z1
   refine wSk ?_
   refine tN (wKK hK3 ?_)
   refine wSeqK fun KK6 hK6 => ?_
   refine wReg ?_
   refine p_refDecC rfl ?_
   refine wE (.int .u8 (idxB s 0)) rfl rfl rfl (fun aa ww hs _ => exec_sidx rfl (hs _ _ rfl) (rfl) Try.underlying9 (by omega)) ?_
   refine wE (.int .i64 (idxB s 0)) rfl rfl rfl (fun aa ww hs _ => by have e16 := hs 16 _ rfl; have g16 := gt_of e16; simp only [execOp]; go_simp <;> omega) ?_
   refine wQ (l := [.int .i64 (idxB s 0)]) Try.func38 rfl (by kernel_rfl) (.tuple #[.agg #[.int .i64 ((sizeL (idxB s 0)).getD 0 0), .int .i64 ((sizeL (idxB s 0)).getD 1 0), .int .i64 ((sizeL (idxB s 0)).getD 2 0), .int .i64 ((sizeL (idxB s 0)).getD 3 0), .int .i64 ((sizeL (idxB s 0)).getD 4 0), .int .i64 ((sizeL (idxB s 0)).getD 5 0), .int .i64 ((sizeL (idxB s 0)).getD 6 0), .int .i64 ((sizeL (idxB s 0)).getD 7 0), .int .i64 ((sizeL (idxB s 0)).getD 8 0), .int .i64 ((sizeL (idxB s 0)).getD 9 0), .int .i64 ((sizeL (idxB s 0)).getD 10 0), .int .i64 ((sizeL (idxB s 0)).getD 11 0), .int .i64 ((sizeL (idxB s 0)).getD 12 0), .int .i64 ((sizeL (idxB s 0)).getD 13 0), .int .i64 ((sizeL (idxB s 0)).getD 14 0), .int .i64 ((sizeL (idxB s 0)).getD 15 0)], .bool (sizeIs (idxB s 0))]) (fun wc H => sizesC (idxB s 0) wc) rfl rfl rfl rfl ?_
   iterate 3 refine p_refDecC rfl ?_
   refine wAl rfl rfl ty_16_int fun b5 => ?_
   refine wSr rfl ty_16_int 0 rfl rfl rfl rfl [.int .i64 ((sizeL (idxB s 0)).getD 0 0), .int .i64 ((sizeL (idxB s 0)).getD 1 0), .int .i64 ((sizeL (idxB s 0)).getD 2 0), .int .i64 ((sizeL (idxB s 0)).getD 3 0), .int .i64 ((sizeL (idxB s 0)).getD 4 0), .int .i64 ((sizeL (idxB s 0)).getD 5 0), .int .i64 ((sizeL (idxB s 0)).getD 6 0), .int .i64 ((sizeL (idxB s 0)).getD 7 0), .int .i64 ((sizeL (idxB s 0)).getD 8 0), .int .i64 ((sizeL (idxB s 0)).getD 9 0), .int .i64 ((sizeL (idxB s 0)).getD 10 0), .int .i64 ((sizeL (idxB s 0)).getD 11 0), .int .i64 ((sizeL (idxB s 0)).getD 12 0), .int .i64 ((sizeL (idxB s 0)).getD 13 0), .int .i64 ((sizeL (idxB s 0)).getD 14 0), .int .i64 ((sizeL (idxB s 0)).getD 15 0)] (by first | rfl | (simp only [spl]; rfl)) ?_
   refine p_refDecC rfl ?_
   refine wN ?_
   refine tN (wKK hK6 ?_)
   refine wSeqK fun KK7 hK7 => ?_
   refine wReg ?_
   refine p_refDecC rfl ?_
   refine wE (.agg #[.string s, .bool false]) rfl rfl rfl (fun aa ww hs _ => by have e21 := hs 21 _ rfl; have g21 := gt_of e21; simp only [execOp]; go_simp <;> omega) ?_
   refine wBx rfl rfl rfl fun b23 => ?_
   refine p_refDecC rfl ?_
   refine wN ?_
   refine tN (wKK hK7 ?_)
   refine wSeqK fun KK8 hK8 => ?_
   refine wSeqK fun KK9 hK9 => ?_
   refine wReg ?_
   refine p_refDecC rfl ?_
   refine wN ?_
   refine tN (wKK hK9 ?_)
   refine wBlk ?_
   refine wLoop (fun ab wv => ∃ i : Nat, ∃ r : List Int, ∃ sl : ByteArray, ∃ vl : Bool, i ≤ 16 ∧ r.length = 16 ∧ Hid (rdTo (sizeL (idxB s 0)) s i = (r, sl, vl)) ∧ ab.tmps.size = 62 ∧ ab.defers = [] ∧ Sat [(0, .string s), (2, .pointer (some ⟨b2, 0, none⟩)), (3, .bool false), (4, .pointer (some ⟨b4, 0, none⟩)), (5, .pointer (some ⟨b5, 0, none⟩)), (6, .bool (sizeIs (idxB s 0))), (7, .pointer (some ⟨b23, 0, none⟩)), (8, .int .i64 i), (12, .bool (decide ((s.size : Int) < 5)))] ab ∧ Hid (Hp [] w wv [rB b23 96 [.string sl, .bool vl], rB b5 31 [.int .i64 ((sizeL (idxB s 0)).getD 0 0), .int .i64 ((sizeL (idxB s 0)).getD 1 0), .int .i64 ((sizeL (idxB s 0)).getD 2 0), .int .i64 ((sizeL (idxB s 0)).getD 3 0), .int .i64 ((sizeL (idxB s 0)).getD 4 0), .int .i64 ((sizeL (idxB s 0)).getD 5 0), .int .i64 ((sizeL (idxB s 0)).getD 6 0), .int .i64 ((sizeL (idxB s 0)).getD 7 0), .int .i64 ((sizeL (idxB s 0)).getD 8 0), .int .i64 ((sizeL (idxB s 0)).getD 9 0), .int .i64 ((sizeL (idxB s 0)).getD 10 0), .int .i64 ((sizeL (idxB s 0)).getD 11 0), .int .i64 ((sizeL (idxB s 0)).getD 12 0), .int .i64 ((sizeL (idxB s 0)).getD 13 0), .int .i64 ((sizeL (idxB s 0)).getD 14 0), .int .i64 ((sizeL (idxB s 0)).getD 15 0)], rB b4 32 [.int .i64 (r.getD 0 0), .int .i64 (r.getD 1 0), .int .i64 (r.getD 2 0), .int .i64 (r.getD 3 0), .int .i64 (r.getD 4 0), .int .i64 (r.getD 5 0), .int .i64 (r.getD 6 0), .int .i64 (r.getD 7 0), .int .i64 (r.getD 8 0), .int .i64 (r.getD 9 0), .int .i64 (r.getD 10 0), .int .i64 (r.getD 11 0), .int .i64 (r.getD 12 0), .int .i64 (r.getD 13 0), .int .i64 (r.getD 14 0), .int .i64 (r.getD 15 0)], rB b2 32 [.int .i64 0, .int .i64 0, .int .i64 0, .int .i64 0, .int .i64 0, .int .i64 0, .int .i64 0, .int .i64 0, .int .i64 0, .int .i64 0, .int .i64 0, .int .i64 0, .int .i64 0, .int .i64 0, .int .i64 0, .int .i64 0]])) (fun ab _ => 16 - (intOf (ab.eval (.tmp 8))).toNat) (fun aa ww nn dd hs H => ⟨0, [0, 0, 0, 0, 0, 0, 0, 0, 0, 0, 0, 0, 0, 0, 0, 0], s, false, (by omega), rfl, (Lib.hid rfl), nn, dd, (sat_sub ⟨rfl, rfl, rfl, rfl, rfl, rfl, rfl, rfl, rfl, trivial⟩ hs), H⟩) ?_
   rintro a1 wv ⟨i, r, sl, vl, hi, hrl, hrd, nn, dd, hs, H⟩
   have mu1_8 := hs 8 _ rfl
   refine wIn nn dd hs H ?_
   clear nn dd hs H
   refine wSeqK fun KK10 hK10 => ?_
   refine wSeqK fun KK11 hK11 => ?_
   refine wReg ?_
   iterate 2 refine p_refDecC rfl ?_
   refine wN ?_
   refine tN (wKK hK11 ?_)
   refine wCond (E := decide ((i : Int) < 16)) rfl (fun z2 => ?_) (fun z2 => ?_)
   · skip
     have z2d : (i : Int) < 16 := of_decide_eq_true z2
     refine wSk ?_
     refine tN (wKK hK10 ?_)
     refine wSeqK fun KK12 hK12 => ?_
     refine wBlk ?_
     refine wSeqK fun KK13 hK13 => ?_
     rcases Bool.eq_false_or_eq_true (decide (0 < (sizeL (idxB s 0)).getD i 0)) with y3 | y3
     · skip
       have y3d : 0 < (sizeL (idxB s 0)).getD i 0 := of_decide_eq_true y3
       refine wReg ?_
       refine p_refDecC rfl ?_
       refine wE (.pointer (some ⟨b5, i, none⟩)) rfl rfl rfl (fun aa ww hs _ => by have e5 := hs 5 _ rfl; have g5 := gt_of e5; have e28 := hs 28 _ rfl; have g28 := gt_of e28; simp only [execOp]; go_simp <;> omega) ?_
       refine wX 30 (.int .i64 ((sizeL (idxB s 0)).getD i 0)) rfl (fun aa ww KK hs H _ hk => hpA_load1 tyint H rfl (hs _ _ rfl) (wnt_ok hs rfl) (by (repeat (first | exact List.Mem.head _ | apply List.Mem.tail))) (get16 (sizeL (idxB s 0)) (by omega)) hk) ?_
       refine p_refDecC rfl ?_
       refine wB 31 rfl y3 ?_
       refine wN ?_
       refine tN (wKK hK13 ?_)
       refine wCt rfl ?_
       refine wReg ?_
       iterate 3 refine p_refDecC rfl ?_
       refine wE (.pointer (some ⟨b5, i, none⟩)) rfl rfl rfl (fun aa ww hs _ => by have e5 := hs 5 _ rfl; have g5 := gt_of e5; have e34 := hs 34 _ rfl; have g34 := gt_of e34; simp only [execOp]; go_simp <;> omega) ?_
       refine wX 36 (.int .i64 ((sizeL (idxB s 0)).getD i 0)) rfl (fun aa ww KK hs H _ hk => hpA_load1 tyint H rfl (hs _ _ rfl) (wnt_ok hs rfl) (by (repeat (first | exact List.Mem.head _ | apply List.Mem.tail))) (get16 (sizeL (idxB s 0)) (by omega)) hk) ?_
       refine wC (l := [.pointer (some ⟨b23, 0, none⟩), .int .i64 ((sizeL (idxB s 0)).getD i 0)]) Try.func44 rfl (by kernel_rfl) (fun wc H => rinXH H (i := 0) (n := (sizeL (idxB s 0)).getD i 0) rfl) rfl rfl rfl rfl ?_
       intro wc H
       rintro er wd ⟨n10_5, s10_5, v10_5, rfl, hq1, H2⟩
       replace H2 := hp_fact H2 hq1
       refine ⟨_, rfl, wkAt H2 ?_⟩
       clear H H2
       refine wE (.pointer (some ⟨b4, i, none⟩)) rfl rfl rfl (fun aa ww hs _ => by have e4 := hs 4 _ rfl; have g4 := gt_of e4; have e32 := hs 32 _ rfl; have g32 := gt_of e32; simp only [execOp]; go_simp <;> omega) ?_
       refine wSa rfl tyint 3 rfl (by show _ < 16; omega) rfl rfl (cs' := [.int .i64 ((r.set i n10_5).getD 0 0), .int .i64 ((r.set i n10_5).getD 1 0), .int .i64 ((r.set i n10_5).getD 2 0), .int .i64 ((r.set i n10_5).getD 3 0), .int .i64 ((r.set i n10_5).getD 4 0), .int .i64 ((r.set i n10_5).getD 5 0), .int .i64 ((r.set i n10_5).getD 6 0), .int .i64 ((r.set i n10_5).getD 7 0), .int .i64 ((r.set i n10_5).getD 8 0), .int .i64 ((r.set i n10_5).getD 9 0), .int .i64 ((r.set i n10_5).getD 10 0), .int .i64 ((r.set i n10_5).getD 11 0), .int .i64 ((r.set i n10_5).getD 12 0), .int .i64 ((r.set i n10_5).getD 13 0), .int .i64 ((r.set i n10_5).getD 14 0), .int .i64 ((r.set i n10_5).getD 15 0)]) (set16 r hrl (by omega) _) ?_
       refine wN ?_
       refine bN (tN (wKK hK12 ?_))
       refine wReg ?_
       iterate 2 refine p_refDecC rfl ?_
       refine wI 27 rfl (IntWalk.i64_in _ (by omega)) ?_
       refine p_refDecC rfl ?_
       refine wN ?_
       refine tN ?_
       intro aa ww nn dd hs H
       have hdn := hp_told H (p := inNumV sl vl ((sizeL (idxB s 0)).getD i 0) = (n10_5, s10_5, v10_5)) (by (repeat (first | exact List.Mem.head _ | apply List.Mem.tail)))
       replace H := hp_front H 4 rfl
       replace H := hp_front H 4 rfl
       replace H := hp_front H 4 rfl
       replace H := hp_front H 4 rfl
       refine ⟨⟨i + 1, (r.set i n10_5), s10_5, v10_5, (by omega), (by rw [List.length_set]; exact hrl), (Lib.hid (rd_yes hrd.out y3 hdn)), nn, dd, (sat_sub ⟨rfl, rfl, rfl, rfl, rfl, rfl, rfl, rfl, rfl, trivial⟩ hs), (hp_take H 4)⟩, ?_⟩
       have m8 := hs 8 _ rfl
       simp only [mu1_8, m8, intOf]
       omega
     · skip
       have y3d : ¬ (0 < ((sizeL (idxB s 0)).getD i 0)) := of_decide_eq_false y3
       refine wReg ?_
       refine p_refDecC rfl ?_
       refine wE (.pointer (some ⟨b5, i, none⟩)) rfl rfl rfl (fun aa ww hs _ => by have e5 := hs 5 _ rfl; have g5 := gt_of e5; have e28 := hs 28 _ rfl; have g28 := gt_of e28; simp only [execOp]; go_simp <;> omega) ?_
       refine wX 30 (.int .i64 ((sizeL (idxB s 0)).getD i 0)) rfl (fun aa ww KK hs H _ hk => hpA_load1 tyint H rfl (hs _ _ rfl) (wnt_ok hs rfl) (by (repeat (first | exact List.Mem.head _ | apply List.Mem.tail))) (get16 (sizeL (idxB s 0)) (by omega)) hk) ?_
       refine p_refDecC rfl ?_
       refine wB 31 rfl y3 ?_
       refine wN ?_
       refine tN (wKK hK13 ?_)
       refine wCf rfl ?_
       refine wSk ?_
       refine bN (tN (wKK hK12 ?_))
       refine wReg ?_
       iterate 2 refine p_refDecC rfl ?_
       refine wI 27 rfl (IntWalk.i64_in _ (by omega)) ?_
       refine p_refDecC rfl ?_
       refine wN ?_
       refine tN ?_
       intro aa ww nn dd hs H
       replace H := hp_front H 3 rfl
       replace H := hp_front H 3 rfl
       replace H := hp_front H 3 rfl
       replace H := hp_front H 3 rfl
       refine ⟨⟨i + 1, r, sl, vl, (by omega), hrl, (Lib.hid (rd_no hrd.out y3)), nn, dd, (sat_sub ⟨rfl, rfl, rfl, rfl, rfl, rfl, rfl, rfl, rfl, trivial⟩ hs), (hp_take H 4)⟩, ?_⟩
       have m8 := hs 8 _ rfl
       simp only [mu1_8, m8, intOf]
       omega
   · skip
     have z2d : ¬ ((i : Int) < 16) := of_decide_eq_false z2
     refine wEx ?_
     refine tX (tX (bX (tN (wKK hK8 ?_))))
     refine wSeqK fun KK14 hK14 => ?_
     refine wSeqK fun KK15 hK15 => ?_
     intro aa ww nn dd hs H
     refine refDecC_r11 s hib hwi b2 b4 z1d b5 b23 i r sl vl hi hrl z2d H aa nn (hs 4 _ rfl) (hs 6 _ rfl) (hs 7 _ rfl) ?_
     intro ab wv nn2 dd2 kp o59 H2
     refine wIn nn2 (dd2.trans dd) (Sat.cons (Sat.cons (Sat.cons (Sat.cons (Sat.cons (Sat.cons (Sat.cons (Sat.cons (Sat.cons (Sat.cons (Sat.cons (sat_nil ab) ((kp 25 rfl).trans (hs 25 _ rfl))) ((kp 12 rfl).trans (hs 12 _ rfl))) ((kp 8 rfl).trans (hs 8 _ rfl))) ((kp 7 rfl).trans (hs 7 _ rfl))) ((kp 6 rfl).trans (hs 6 _ rfl))) ((kp 5 rfl).trans (hs 5 _ rfl))) ((kp 4 rfl).trans (hs 4 _ rfl))) ((kp 3 rfl).trans (hs 3 _ rfl))) ((kp 2 rfl).trans (hs 2 _ rfl))) ((kp 0 rfl).trans (hs 0 _ rfl))) o59) H2 ?_
     clear hs H kp H2 dd dd2 nn nn2 o59
     refine tN (wKK hK15 ?_)
     refine wCond (E := (((!(sizeIs (idxB s 0))) || vl) || (decide (0 < (sl.size : Int)))) || (!(goodR r))) rfl (fun z4 => ?_) (fun z4 => ?_)
     · skip
       refine wSeqK fun KK16 hK16 => ?_
       refine wReg ?_
       refine wE (.agg #[.int .i64 0, .int .i64 0, .int .i64 0, .int .i64 0, .int .i64 0, .int .i64 0, .int .i64 0, .int .i64 0, .int .i64 0, .int .i64 0, .int .i64 0, .int .i64 0, .int .i64 0, .int .i64 0, .int .i64 0, .int .i64 0]) rfl rfl rfl (fun aa ww hs _ => by simp only [execOp]; go_simp <;> omega) ?_
       refine wSr rfl tyhoistwayref14_Request 3 rfl rfl rfl rfl [.int .i64 0, .int .i64 0, .int .i64 0, .int .i64 0, .int .i64 0, .int .i64 0, .int .i64 0, .int .i64 0, .int .i64 0, .int .i64 0, .int .i64 0, .int .i64 0, .int .i64 0, .int .i64 0, .int .i64 0, .int .i64 0] (by first | rfl | (simp only [spl]; rfl)) ?_
       refine p_refDecC rfl ?_
       refine wN ?_
       refine tN (wKK hK16 ?_)
       refine wRet ?_
       refine tR ?_
       exact wRct tyhoistwayref14_Request rfl rfl rfl 3 rfl rfl (fun ww H => (by have hr2 := hrd.out; rw [show i = 16 by omega] at hr2; have hd := dec_at (E := true) z1 hr2 z4; exact ⟨by rw [dec_none hd, hd]; rfl, H.out.off⟩))
     · skip
       have z4l : (((!(sizeIs (idxB s 0))) || vl) || (decide (0 < (sl.size : Int)))) = false := Reg.ol z4
       have z4ll : ((!(sizeIs (idxB s 0))) || vl) = false := Reg.ol z4l
       have z4lll : (!(sizeIs (idxB s 0))) = false := Reg.ol z4ll
       have z4llln : (sizeIs (idxB s 0)) = true := Reg.bt z4lll
       have z4llr : vl = false := Reg.orr z4ll
       have z4lr : (decide (0 < (sl.size : Int))) = false := Reg.orr z4l
       have z4lrd : ¬ (0 < (sl.size : Int)) := of_decide_eq_false z4lr
       have z4r : (!(goodR r)) = false := Reg.orr z4
       have z4rn : (goodR r) = true := Reg.bt z4r
       refine wSk ?_
       refine tN (wKK hK14 ?_)
       refine wSeqK fun KK17 hK17 => ?_
       refine wReg ?_
       refine wLr rfl tyhoistwayref14_Request 2 rfl [.int .i64 (r.getD 0 0), .int .i64 (r.getD 1 0), .int .i64 (r.getD 2 0), .int .i64 (r.getD 3 0), .int .i64 (r.getD 4 0), .int .i64 (r.getD 5 0), .int .i64 (r.getD 6 0), .int .i64 (r.getD 7 0), .int .i64 (r.getD 8 0), .int .i64 (r.getD 9 0), .int .i64 (r.getD 10 0), .int .i64 (r.getD 11 0), .int .i64 (r.getD 12 0), .int .i64 (r.getD 13 0), .int .i64 (r.getD 14 0), .int .i64 (r.getD 15 0)] rfl rfl ?_
       refine wSr rfl tyhoistwayref14_Request 3 rfl rfl rfl rfl [.int .i64 (r.getD 0 0), .int .i64 (r.getD 1 0), .int .i64 (r.getD 2 0), .int .i64 (r.getD 3 0), .int .i64 (r.getD 4 0), .int .i64 (r.getD 5 0), .int .i64 (r.getD 6 0), .int .i64 (r.getD 7 0), .int .i64 (r.getD 8 0), .int .i64 (r.getD 9 0), .int .i64 (r.getD 10 0), .int .i64 (r.getD 11 0), .int .i64 (r.getD 12 0), .int .i64 (r.getD 13 0), .int .i64 (r.getD 14 0), .int .i64 (r.getD 15 0)] (by first | rfl | (simp only [spl]; rfl)) ?_
       refine p_refDecC rfl ?_
       refine wN ?_
       refine tN (wKK hK17 ?_)
       refine wRet ?_
       exact wRct tyhoistwayref14_Request rfl rfl rfl 3 rfl rfl (fun ww H => (by have hr2 := hrd.out; rw [show i = 16 by omega] at hr2; have hd := dec_at (E := false) z1 hr2 z4; exact ⟨by rw [dec_val hd hr2, hd]; rfl, H.out.off⟩))
def tab_formC : Wk.Tab := [(25, 1, 1), (25, 2, 2), (25, 3, 3), (25, 4, 4), (27, 0, 0), (27, 1, 1), (29, 0, 0), (29, 1, 1), (29, 2, 2), (29, 3, 3), (29, 4, 4), (29, 5, 5), (29, 6, 6), (29, 7, 14), (29, 8, 15), (29, 9, 16), (29, 10, 17)]
theorem p_formC {ops : Array Oper} {rest : List Oper} {o : Oper} {w0 : World} {Q : Exit → Act → World → Prop} {S : List Nat} {R : List Res} {K K' : Wk.Env} {N : Nat} (h : Wk.stp tab_formC N ops K o = some K') (n : Wk.Wk N S w0 K' R (wpList Try.prog ops Q rest)) : Wk.Wk N S w0 K R (wpList Try.prog ops Q (o :: rest)) := Wk.wP (T := tab_formC) (by kernel_rfl) h n
set_option maxHeartbeats 4000000 in
set_option maxRecDepth 20000 in
theorem formC_r2 (q : ReqV) (hq : okReq q) (b1 : Nat) (b2 : Nat) (b4 : Nat) {wa wb : World} (H : Hid (Hp [] wa wb [rB b4 25 [.int .i64 q.call.id, .int .i64 q.call.kind, .int .i64 q.call.src, .int .i64 q.call.dst, .int .i64 q.call.car, .int .i64 q.call.state, .int .i64 q.call.owner, .int .i64 q.call.born], rB b2 32 [.int .i64 0, .int .i64 0, .int .i64 0, .int .i64 0, .int .i64 0, .int .i64 0, .int .i64 0, .int .i64 0, .int .i64 0, .int .i64 0, .int .i64 0, .int .i64 0, .int .i64 0, .int .i64 0, .int .i64 0, .int .i64 0], rB b1 29 [.int .i64 q.kind, .int .i64 q.seq, .int .i64 q.who, .int .i64 q.role, .int .u32 q.token, .int .u64 q.key, .int .i64 q.call.id, .int .i64 q.call.kind, .int .i64 q.call.src, .int .i64 q.call.dst, .int .i64 q.call.car, .int .i64 q.call.state, .int .i64 q.call.owner, .int .i64 q.call.born, .int .i64 q.id, .int .i64 q.car, .int .i64 q.mode, .int .i64 q.filter.kind, .int .i64 q.filter.n]])) (ac0 : Act) (hz : ac0.tmps.size = 67) (so4 : ac0.eval (.tmp 4) = .pointer (some ⟨b4, 0, none⟩)) {QR : Exit → Act → World → Prop} (hfin : ∀ (ac1 : Act) (wz : World), ac1.tmps.size = 67 → ac1.defers = ac0.defers → (∀ t, ([5, 8, 9, 10, 11, 12, 13, 14, 15, 16, 17, 18, 19, 20, 21, 22, 23, 24, 25] : List Nat).contains t = false → ac1.eval (.tmp t) = ac0.eval (.tmp t)) → ac1.eval (.tmp 5) = .bool ((((q.call.id == 0) && (q.call.state == 0)) && (q.call.owner == 0)) && (q.call.born == 0)) →  Hid (Hp [] wa wz [rB b4 25 [.int .i64 q.call.id, .int .i64 q.call.kind, .int .i64 q.call.src, .int .i64 q.call.dst, .int .i64 q.call.car, .int .i64 q.call.state, .int .i64 q.call.owner, .int .i64 q.call.born], rB b2 32 [.int .i64 0, .int .i64 0, .int .i64 0, .int .i64 0, .int .i64 0, .int .i64 0, .int .i64 0, .int .i64 0, .int .i64 0, .int .i64 0, .int .i64 0, .int .i64 0, .int .i64 0, .int .i64 0, .int .i64 0, .int .i64 0], rB b1 29 [.int .i64 q.kind, .int .i64 q.seq, .int .i64 q.who, .int .i64 q.role, .int .u32 q.token, .int .u64 q.key, .int .i64 q.call.id, .int .i64 q.call.kind, .int .i64 q.call.src, .int .i64 q.call.dst, .int .i64 q.call.car, .int .i64 q.call.state, .int .i64 q.call.owner, .int .i64 q.call.born, .int .i64 q.id, .int .i64 q.car, .int .i64 q.mode, .int .i64 q.filter.kind, .int .i64 q.filter.n]]) → QR .normal ac1 wz) : (regAt Try.f12 2).wp Try.prog QR ac0 wb := by
  refine wp_region_sq (by kernel_rfl) 67 hz (by kernel_rfl) (fun (xx : Unit) jx => nth [.pointer (some ⟨b4, 0, none⟩), .int .i64 q.call.id, .bool (q.call.id == 0), .bool (q.call.id == 0), bif (q.call.id == 0) then .pointer (some ⟨b4, 5, none⟩) else undef, bif (q.call.id == 0) then .int .i64 q.call.state else undef, bif (q.call.id == 0) then .bool (q.call.state == 0) else undef, .bool ((q.call.id == 0) && (q.call.state == 0)), .bool ((q.call.id == 0) && (q.call.state == 0)), bif ((q.call.id == 0) && (q.call.state == 0)) then .pointer (some ⟨b4, 6, none⟩) else undef, bif ((q.call.id == 0) && (q.call.state == 0)) then .int .i64 q.call.owner else undef, bif ((q.call.id == 0) && (q.call.state == 0)) then .bool (q.call.owner == 0) else undef, .bool (((q.call.id == 0) && (q.call.state == 0)) && (q.call.owner == 0)), .bool (((q.call.id == 0) && (q.call.state == 0)) && (q.call.owner == 0)), bif (((q.call.id == 0) && (q.call.state == 0)) && (q.call.owner == 0)) then .pointer (some ⟨b4, 7, none⟩) else undef, bif (((q.call.id == 0) && (q.call.state == 0)) && (q.call.owner == 0)) then .int .i64 q.call.born else undef, bif (((q.call.id == 0) && (q.call.state == 0)) && (q.call.owner == 0)) then .bool (q.call.born == 0) else undef, .bool ((((q.call.id == 0) && (q.call.state == 0)) && (q.call.owner == 0)) && (q.call.born == 0)), .bool ((((q.call.id == 0) && (q.call.state == 0)) && (q.call.owner == 0)) && (q.call.born == 0))] jx) (fun (LL : Nat → Bool) (xx : Unit) ww => Hp [] wa ww [rB b4 25 [.int .i64 q.call.id, .int .i64 q.call.kind, .int .i64 q.call.src, .int .i64 q.call.dst, .int .i64 q.call.car, .int .i64 q.call.state, .int .i64 q.call.owner, .int .i64 q.call.born], rB b2 32 [.int .i64 0, .int .i64 0, .int .i64 0, .int .i64 0, .int .i64 0, .int .i64 0, .int .i64 0, .int .i64 0, .int .i64 0, .int .i64 0, .int .i64 0, .int .i64 0, .int .i64 0, .int .i64 0, .int .i64 0, .int .i64 0], rB b1 29 [.int .i64 q.kind, .int .i64 q.seq, .int .i64 q.who, .int .i64 q.role, .int .u32 q.token, .int .u64 q.key, .int .i64 q.call.id, .int .i64 q.call.kind, .int .i64 q.call.src, .int .i64 q.call.dst, .int .i64 q.call.car, .int .i64 q.call.state, .int .i64 q.call.owner, .int .i64 q.call.born, .int .i64 q.id, .int .i64 q.car, .int .i64 q.mode, .int .i64 q.filter.kind, .int .i64 q.filter.n]]) () H.out ?_ (steps_al ?_) ?_ ?_
  · exact fun _ _ _ _ _ h => h
  · refine al_cons ?_ (al_cons ?_ (al_cons ?_ (al_cons ?_ (al_cons ?_ (al_cons ?_ (al_cons ?_ (al_cons ?_ (al_cons ?_ (al_cons ?_ (al_cons ?_ (al_cons ?_ (al_cons ?_ (al_cons ?_ (al_cons ?_ (al_cons ?_ (al_cons ?_ (al_cons ?_ (al_cons ?_ (al_nil)))))))))))))))))))
    · intro LL xx ac wc sg hst hwant QQ hgo
      have se4 : ac.eval (.tmp 4) = _ := ((sg.free 4 (by kernel_rfl)).trans so4)
      have sg4 := gt_of se4
      exact op_val hwant hgo hst _ (by simp only [execOp, nth]; go_simp <;> omega) rfl
    · intro LL xx ac wc sg hst hwant QQ hgo
      have H := Lib.hid hst
      refine hpA_load1 tyint H rfl (sg.slot 0 (sg.anc 0 rfl)) hwant (by (repeat (first | exact List.Mem.head _ | apply List.Mem.tail))) (by rfl) ?_
      exact hgo _ () _ (fun _ _ => rfl) rfl hst
    · intro LL xx ac wc sg hst hwant QQ hgo
      have se9 : ac.eval (.tmp 9) = _ := (sg.slot 1 (sg.anc 1 rfl))
      have sg9 := gt_of se9
      (try simp only [nth] at se9 sg9)
      exact op_val hwant hgo hst _ (by simp only [execOp, nth]; go_simp <;> omega) rfl
    · intro LL xx ac wc sg hst hwant QQ hgo
      exact op_val hwant hgo hst _ (exec_move rfl (sg.slot 2 (sg.anc 2 rfl))) rfl
    · intro LL xx ac wc sg hst hwant QQ hgo
      have hG : (q.call.id == 0) = true := (want_t rfl rfl (sg.slot 3 (sg.anc 3 rfl))).symm.trans hwant
      have se4 : ac.eval (.tmp 4) = _ := ((sg.free 4 (by kernel_rfl)).trans so4)
      have sg4 := gt_of se4
      exact op_val hwant hgo hst _ (by simp only [execOp, nth]; go_simp <;> omega) (cI hG)
    · intro LL xx ac wc sg hst hwant QQ hgo
      have hG : (q.call.id == 0) = true := (want_t rfl rfl (sg.slot 3 (sg.anc 3 rfl))).symm.trans hwant
      have H := Lib.hid hst
      refine hpA_load1 tyint H rfl (cT (sg.slot 4 (sg.anc 4 rfl)) hG) hwant (by (repeat (first | exact List.Mem.head _ | apply List.Mem.tail))) (by rfl) ?_
      exact hgo _ () _ (fun _ _ => rfl) (cI hG) hst
    · intro LL xx ac wc sg hst hwant QQ hgo
      have hG : (q.call.id == 0) = true := (want_t rfl rfl (sg.slot 3 (sg.anc 3 rfl))).symm.trans hwant
      have se13 : ac.eval (.tmp 13) = _ := (cT (sg.slot 5 (sg.anc 5 rfl)) hG)
      have sg13 := gt_of se13
      (try simp only [nth] at se13 sg13)
      exact op_val hwant hgo hst _ (by simp only [execOp, nth]; go_simp <;> omega) (cI hG)
    · intro LL xx ac wc sg hst hwant QQ hgo
      exact op_val hwant hgo hst (.bool ((q.call.id == 0) && (q.call.state == 0))) (exec_and (Y := q.call.state == 0) rfl (sg.slot 3 (sg.anc 3 rfl)) (fun qq => cT (sg.slot 6 (sg.anc 6 rfl)) qq)) rfl
    · intro LL xx ac wc sg hst hwant QQ hgo
      exact op_val hwant hgo hst _ (exec_move rfl (sg.slot 7 (sg.anc 7 rfl))) rfl
    · intro LL xx ac wc sg hst hwant QQ hgo
      have hG : ((q.call.id == 0) && (q.call.state == 0)) = true := (want_t rfl rfl (sg.slot 8 (sg.anc 8 rfl))).symm.trans hwant
      have se4 : ac.eval (.tmp 4) = _ := ((sg.free 4 (by kernel_rfl)).trans so4)
      have sg4 := gt_of se4
      exact op_val hwant hgo hst _ (by simp only [execOp, nth]; go_simp <;> omega) (cI hG)
    · intro LL xx ac wc sg hst hwant QQ hgo
      have hG : ((q.call.id == 0) && (q.call.state == 0)) = true := (want_t rfl rfl (sg.slot 8 (sg.anc 8 rfl))).symm.trans hwant
      have H := Lib.hid hst
      refine hpA_load1 tyint H rfl (cT (sg.slot 9 (sg.anc 9 rfl)) hG) hwant (by (repeat (first | exact List.Mem.head _ | apply List.Mem.tail))) (by rfl) ?_
      exact hgo _ () _ (fun _ _ => rfl) (cI hG) hst
    · intro LL xx ac wc sg hst hwant QQ hgo
      have hG : ((q.call.id == 0) && (q.call.state == 0)) = true := (want_t rfl rfl (sg.slot 8 (sg.anc 8 rfl))).symm.trans hwant
      have se18 : ac.eval (.tmp 18) = _ := (cT (sg.slot 10 (sg.anc 10 rfl)) hG)
      have sg18 := gt_of se18
      (try simp only [nth] at se18 sg18)
      exact op_val hwant hgo hst _ (by simp only [execOp, nth]; go_simp <;> omega) (cI hG)
    · intro LL xx ac wc sg hst hwant QQ hgo
      exact op_val hwant hgo hst (.bool (((q.call.id == 0) && (q.call.state == 0)) && (q.call.owner == 0))) (exec_and (Y := q.call.owner == 0) rfl (sg.slot 8 (sg.anc 8 rfl)) (fun qq => cT (sg.slot 11 (sg.anc 11 rfl)) qq)) rfl
    · intro LL xx ac wc sg hst hwant QQ hgo
      exact op_val hwant hgo hst _ (exec_move rfl (sg.slot 12 (sg.anc 12 rfl))) rfl
    · intro LL xx ac wc sg hst hwant QQ hgo
      have hG : (((q.call.id == 0) && (q.call.state == 0)) && (q.call.owner == 0)) = true := (want_t rfl rfl (sg.slot 13 (sg.anc 13 rfl))).symm.trans hwant
      have se4 : ac.eval (.tmp 4) = _ := ((sg.free 4 (by kernel_rfl)).trans so4)
      have sg4 := gt_of se4
      exact op_val hwant hgo hst _ (by simp only [execOp, nth]; go_simp <;> omega) (cI hG)
    · intro LL xx ac wc sg hst hwant QQ hgo
      have hG : (((q.call.id == 0) && (q.call.state == 0)) && (q.call.owner == 0)) = true := (want_t rfl rfl (sg.slot 13 (sg.anc 13 rfl))).symm.trans hwant
      have H := Lib.hid hst
      refine hpA_load1 tyint H rfl (cT (sg.slot 14 (sg.anc 14 rfl)) hG) hwant (by (repeat (first | exact List.Mem.head _ | apply List.Mem.tail))) (by rfl) ?_
      exact hgo _ () _ (fun _ _ => rfl) (cI hG) hst
    · intro LL xx ac wc sg hst hwant QQ hgo
      have hG : (((q.call.id == 0) && (q.call.state == 0)) && (q.call.owner == 0)) = true := (want_t rfl rfl (sg.slot 13 (sg.anc 13 rfl))).symm.trans hwant
      have se23 : ac.eval (.tmp 23) = _ := (cT (sg.slot 15 (sg.anc 15 rfl)) hG)
      have sg23 := gt_of se23
      (try simp only [nth] at se23 sg23)
      exact op_val hwant hgo hst _ (by simp only [execOp, nth]; go_simp <;> omega) (cI hG)
    · intro LL xx ac wc sg hst hwant QQ hgo
      exact op_val hwant hgo hst (.bool ((((q.call.id == 0) && (q.call.state == 0)) && (q.call.owner == 0)) && (q.call.born == 0))) (exec_and (Y := q.call.born == 0) rfl (sg.slot 13 (sg.anc 13 rfl)) (fun qq => cT (sg.slot 16 (sg.anc 16 rfl)) qq)) rfl
    · intro LL xx ac wc sg hst hwant QQ hgo
      exact op_val hwant hgo hst _ (exec_assign rfl (sg.slot 17 (sg.anc 17 rfl))) rfl
  · refine skips [4, 5, 6, 9, 10, 11, 14, 15, 16] (by kernel_rfl) ?_
    refine List.forall_mem_cons.2 ⟨?_, List.forall_mem_cons.2 ⟨?_, List.forall_mem_cons.2 ⟨?_, List.forall_mem_cons.2 ⟨?_, List.forall_mem_cons.2 ⟨?_, List.forall_mem_cons.2 ⟨?_, List.forall_mem_cons.2 ⟨?_, List.forall_mem_cons.2 ⟨?_, List.forall_mem_cons.2 ⟨?_, fun _ h => by cases h⟩⟩⟩⟩⟩⟩⟩⟩⟩
    · intro oo hop LL xx ac sg hwant
      cases Option.some.inj hop
      have hG : (q.call.id == 0) = false := (want_t rfl rfl (sg.slot 3 (sg.anc 3 rfl))).symm.trans hwant
      exact ⟨cF hG, fun _ h => h⟩
    · intro oo hop LL xx ac sg hwant
      cases Option.some.inj hop
      have hG : (q.call.id == 0) = false := (want_t rfl rfl (sg.slot 3 (sg.anc 3 rfl))).symm.trans hwant
      exact ⟨cF hG, fun _ h => h⟩
    · intro oo hop LL xx ac sg hwant
      cases Option.some.inj hop
      have hG : (q.call.id == 0) = false := (want_t rfl rfl (sg.slot 3 (sg.anc 3 rfl))).symm.trans hwant
      exact ⟨cF hG, fun _ h => h⟩
    · intro oo hop LL xx ac sg hwant
      cases Option.some.inj hop
      have hG : ((q.call.id == 0) && (q.call.state == 0)) = false := (want_t rfl rfl (sg.slot 8 (sg.anc 8 rfl))).symm.trans hwant
      exact ⟨cF hG, fun _ h => h⟩
    · intro oo hop LL xx ac sg hwant
      cases Option.some.inj hop
      have hG : ((q.call.id == 0) && (q.call.state == 0)) = false := (want_t rfl rfl (sg.slot 8 (sg.anc 8 rfl))).symm.trans hwant
      exact ⟨cF hG, fun _ h => h⟩
    · intro oo hop LL xx ac sg hwant
      cases Option.some.inj hop
      have hG : ((q.call.id == 0) && (q.call.state == 0)) = false := (want_t rfl rfl (sg.slot 8 (sg.anc 8 rfl))).symm.trans hwant
      exact ⟨cF hG, fun _ h => h⟩
    · intro oo hop LL xx ac sg hwant
      cases Option.some.inj hop
      have hG : (((q.call.id == 0) && (q.call.state == 0)) && (q.call.owner == 0)) = false := (want_t rfl rfl (sg.slot 13 (sg.anc 13 rfl))).symm.trans hwant
      exact ⟨cF hG, fun _ h => h⟩
    · intro oo hop LL xx ac sg hwant
      cases Option.some.inj hop
      have hG : (((q.call.id == 0) && (q.call.state == 0)) && (q.call.owner == 0)) = false := (want_t rfl rfl (sg.slot 13 (sg.anc 13 rfl))).symm.trans hwant
      exact ⟨cF hG, fun _ h => h⟩
    · intro oo hop LL xx ac sg hwant
      cases Option.some.inj hop
      have hG : (((q.call.id == 0) && (q.call.state == 0)) && (q.call.owner == 0)) = false := (want_t rfl rfl (sg.slot 13 (sg.anc 13 rfl))).symm.trans hwant
      exact ⟨cF hG, fun _ h => h⟩
  · intro xx ac1 wz hfr hsl hst
    exact hfin ac1 wz (hfr.size.trans hz) hfr.defers (fr_keep hfr [5, 8, 9, 10, 11, 12, 13, 14, 15, 16, 17, 18, 19, 20, 21, 22, 23, 24, 25] (by kernel_rfl)) (hsl 18 (by decide)) (Lib.hid hst)
set_option maxHeartbeats 16000000 in
set_option maxRecDepth 20000 in
theorem formC (q : ReqV) (w : World) (hq : okReq q) : Calls Try.prog 12 #[.agg #[.int .i64 q.kind, .int .i64 q.seq, .int .i64 q.who, .int .i64 q.role, .int .u32 q.token, .int .u64 q.key, .int .i64 q.call.id, .int .i64 q.call.kind, .int .i64 q.call.src, .int .i64 q.call.dst, .int .i64 q.call.car, .int .i64 q.call.state, .int .i64 q.call.owner, .int .i64 q.call.born, .int .i64 q.id, .int .i64 q.car, .int .i64 q.mode, .int .i64 q.filter.kind, .int .i64 q.filter.n]] w fun e w' => e = .returned (.tuple #[.agg #[.int .i64 ((numsQ q).getD 0 0), .int .i64 ((numsQ q).getD 1 0), .int .i64 ((numsQ q).getD 2 0), .int .i64 ((numsQ q).getD 3 0), .int .i64 ((numsQ q).getD 4 0), .int .i64 ((numsQ q).getD 5 0), .int .i64 ((numsQ q).getD 6 0), .int .i64 ((numsQ q).getD 7 0), .int .i64 ((numsQ q).getD 8 0), .int .i64 ((numsQ q).getD 9 0), .int .i64 ((numsQ q).getD 10 0), .int .i64 ((numsQ q).getD 11 0), .int .i64 ((numsQ q).getD 12 0), .int .i64 ((numsQ q).getD 13 0), .int .i64 ((numsQ q).getD 14 0), .int .i64 ((numsQ q).getD 15 0)], .bool (formB q)]) ∧ Off [] w w' := by
 have H := Lib.hid (Hp.start [] w)
 refine wStart (args := [.agg #[.int .i64 q.kind, .int .i64 q.seq, .int .i64 q.who, .int .i64 q.role, .int .u32 q.token, .int .u64 q.key, .int .i64 q.call.id, .int .i64 q.call.kind, .int .i64 q.call.src, .int .i64 q.call.dst, .int .i64 q.call.car, .int .i64 q.call.state, .int .i64 q.call.owner, .int .i64 q.call.born, .int .i64 q.id, .int .i64 q.car, .int .i64 q.mode, .int .i64 q.filter.kind, .int .i64 q.filter.n]]) Try.func12 rfl rfl rfl H ?_
 clear H
 show Wk 67 _ _ [(0, .agg #[.int .i64 q.kind, .int .i64 q.seq, .int .i64 q.who, .int .i64 q.role, .int .u32 q.token, .int .u64 q.key, .int .i64 q.call.id, .int .i64 q.call.kind, .int .i64 q.call.src, .int .i64 q.call.dst, .int .i64 q.call.car, .int .i64 q.call.state, .int .i64 q.call.owner, .int .i64 q.call.born, .int .i64 q.id, .int .i64 q.car, .int .i64 q.mode, .int .i64 q.filter.kind, .int .i64 q.filter.n])] _ _
 refine wSeqK fun KK1 hK1 => ?_
 refine wReg ?_
 refine wBx rfl rfl rfl fun b1 => ?_
 refine wAl rfl rfl tyhoistwayref14_Request fun b2 => ?_
 refine p_formC rfl ?_
 refine wN ?_
 refine tN (wKK hK1 ?_)
 refine wSeqK fun KK2 hK2 => ?_
 refine wReg ?_
 refine p_formC rfl ?_
 refine wLr rfl tyapi_Call 1 rfl [.int .i64 q.call.id, .int .i64 q.call.kind, .int .i64 q.call.src, .int .i64 q.call.dst, .int .i64 q.call.car, .int .i64 q.call.state, .int .i64 q.call.owner, .int .i64 q.call.born] rfl rfl ?_
 refine wAl rfl rfl tyapi_Call fun b4 => ?_
 refine wSr rfl tyapi_Call 0 rfl rfl rfl rfl [.int .i64 q.call.id, .int .i64 q.call.kind, .int .i64 q.call.src, .int .i64 q.call.dst, .int .i64 q.call.car, .int .i64 q.call.state, .int .i64 q.call.owner, .int .i64 q.call.born] (by first | rfl | (simp only [spl]; rfl)) ?_
 refine wN ?_
 refine tN (wKK hK2 ?_)
 refine wSeqK fun KK3 hK3 => ?_
 intro aa ww nn dd hs H
 refine formC_r2 q hq b1 b2 b4 H aa nn (hs 4 _ rfl) ?_
 intro ab wv nn2 dd2 kp o5 H2
 refine wIn nn2 (dd2.trans dd) (Sat.cons (Sat.cons (Sat.cons (Sat.cons (Sat.cons (Sat.cons (sat_nil ab) ((kp 4 rfl).trans (hs 4 _ rfl))) ((kp 3 rfl).trans (hs 3 _ rfl))) ((kp 2 rfl).trans (hs 2 _ rfl))) ((kp 1 rfl).trans (hs 1 _ rfl))) ((kp 0 rfl).trans (hs 0 _ rfl))) o5) H2 ?_
 clear hs H kp H2 dd dd2 nn nn2 o5
 refine tN (wKK hK3 ?_)
 refine wSeqK fun KK4 hK4 => ?_
 refine wReg ?_
 refine p_formC rfl ?_
 refine wLd rfl tyint 2 rfl rfl ?_
 refine p_formC rfl ?_
 refine wLd rfl tyint 2 rfl rfl ?_
 refine p_formC rfl ?_
 refine wLd rfl tyint 2 rfl rfl ?_
 refine p_formC rfl ?_
 refine wLd rfl tyint 2 rfl rfl ?_
 refine p_formC rfl ?_
 refine wLd rfl tyuint32 2 rfl rfl ?_
 refine wE (.int .i64 (IntKind.i64.wrap q.token)) rfl rfl rfl (fun aa ww hs _ => by have e35 := hs 35 _ rfl; have g35 := gt_of e35; simp only [execOp]; go_simp <;> omega) ?_
 refine p_formC rfl ?_
 refine wLd rfl tyuint64 2 rfl rfl ?_
 refine wE (.int .u64 (IntKind.u64.wrap (q.key.tdiv 4294967296))) rfl rfl rfl (fun aa ww hs _ => by have e38 := hs 38 _ rfl; have g38 := gt_of e38; simp only [execOp]; go_simp <;> omega) ?_
 refine wE (.int .i64 (IntKind.i64.wrap (IntKind.u64.wrap (q.key.tdiv 4294967296)))) rfl rfl rfl (fun aa ww hs _ => by have e39 := hs 39 _ rfl; have g39 := gt_of e39; simp only [execOp]; go_simp <;> omega) ?_
 refine p_formC rfl ?_
 refine wLd rfl tyuint64 2 rfl rfl ?_
 refine wE (.int .u64 (q.key.tmod 4294967296)) rfl rfl rfl (fun aa ww hs _ => by have e42 := hs 42 _ rfl; have g42 := gt_of e42; simp only [execOp]; go_simp <;> omega) ?_
 refine wE (.int .i64 (IntKind.i64.wrap (q.key.tmod 4294967296))) rfl rfl rfl (fun aa ww hs _ => by have e43 := hs 43 _ rfl; have g43 := gt_of e43; simp only [execOp]; go_simp <;> omega) ?_
 refine p_formC rfl ?_
 refine wLd rfl tyint 0 rfl rfl ?_
 refine p_formC rfl ?_
 refine wLd rfl tyint 0 rfl rfl ?_
 refine p_formC rfl ?_
 refine wLd rfl tyint 0 rfl rfl ?_
 refine p_formC rfl ?_
 refine wLd rfl tyint 0 rfl rfl ?_
 refine p_formC rfl ?_
 refine wLd rfl tyint 2 rfl rfl ?_
 refine p_formC rfl ?_
 refine wLd rfl tyint 2 rfl rfl ?_
 refine p_formC rfl ?_
 refine wLd rfl tyint 2 rfl rfl ?_
 iterate 2 refine p_formC rfl ?_
 refine wLd rfl tyint 2 rfl rfl ?_
 iterate 2 refine p_formC rfl ?_
 refine wLd rfl tyint 2 rfl rfl ?_
 refine wE (.agg #[.int .i64 q.kind, .int .i64 q.seq, .int .i64 q.who, .int .i64 q.role, .int .i64 (IntKind.i64.wrap q.token), .int .i64 (IntKind.i64.wrap (IntKind.u64.wrap (q.key.tdiv 4294967296))), .int .i64 (IntKind.i64.wrap (q.key.tmod 4294967296)), .int .i64 q.call.kind, .int .i64 q.call.src, .int .i64 q.call.dst, .int .i64 q.call.car, .int .i64 q.id, .int .i64 q.car, .int .i64 q.mode, .int .i64 q.filter.kind, .int .i64 q.filter.n]) rfl rfl rfl (fun aa ww hs _ => by have e27 := hs 27 _ rfl; have g27 := gt_of e27; have e29 := hs 29 _ rfl; have g29 := gt_of e29; have e31 := hs 31 _ rfl; have g31 := gt_of e31; have e33 := hs 33 _ rfl; have g33 := gt_of e33; have e36 := hs 36 _ rfl; have g36 := gt_of e36; have e40 := hs 40 _ rfl; have g40 := gt_of e40; have e44 := hs 44 _ rfl; have g44 := gt_of e44; have e46 := hs 46 _ rfl; have g46 := gt_of e46; have e48 := hs 48 _ rfl; have g48 := gt_of e48; have e50 := hs 50 _ rfl; have g50 := gt_of e50; have e52 := hs 52 _ rfl; have g52 := gt_of e52; have e54 := hs 54 _ rfl; have g54 := gt_of e54; have e56 := hs 56 _ rfl; have g56 := gt_of e56; have e58 := hs 58 _ rfl; have g58 := gt_of e58; have e61 := hs 61 _ rfl; have g61 := gt_of e61; have e64 := hs 64 _ rfl; have g64 := gt_of e64; simp only [execOp]; go_simp <;> omega) ?_
 refine p_formC rfl ?_
 refine wSr rfl tyhoistwayref14_Request 1 rfl rfl rfl rfl [.int .i64 q.kind, .int .i64 q.seq, .int .i64 q.who, .int .i64 q.role, .int .i64 (IntKind.i64.wrap q.token), .int .i64 (IntKind.i64.wrap (IntKind.u64.wrap (q.key.tdiv 4294967296))), .int .i64 (IntKind.i64.wrap (q.key.tmod 4294967296)), .int .i64 q.call.kind, .int .i64 q.call.src, .int .i64 q.call.dst, .int .i64 q.call.car, .int .i64 q.id, .int .i64 q.car, .int .i64 q.mode, .int .i64 q.filter.kind, .int .i64 q.filter.n] (by first | rfl | (simp only [spl]; rfl)) ?_
 refine p_formC rfl ?_
 refine wN ?_
 refine tN (wKK hK4 ?_)
 refine wRet ?_
 exact wRct tyhoistwayref14_Request rfl rfl rfl 1 rfl rfl (fun ww H => ⟨by (have h1 := hq.1; have h2 := hq.2); rw [IntWalk.u64_quo q.key 4294967296 (by omega), Int.tmod_eq_emod_of_nonneg h2.1, IntWalk.i64_in q.token (by omega), IntWalk.i64_in (q.key / 4294967296) (by omega), IntWalk.i64_in (q.key % 4294967296) (by omega)]; rfl, H.out.off⟩)
end Go.Proofs.Ytloemjhhedkhiaa.Ms
