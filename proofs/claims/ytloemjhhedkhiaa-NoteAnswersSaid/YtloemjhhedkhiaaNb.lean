/- Layer 15: plain laws: what was encoded is decoded, and nothing else is; notices. -/
import Derived.Test.YtloemjhhedkhiaaProg
import Derived.Below
import Derived.WalkKit
import Derived.KernelRfl
import Derived.RowKit3
import Derived.Deep.LoopGhost
import Derived.Deep.QuietTactic
import Derived.BigQuiet
import Derived.WideLaws
import Derived.Deep.DeepCutAuto
import Derived.Deep.CutBlock
import Derived.Lib.Hide
import Derived.Laws.BitsLemmas
import Derived.Laws.Bits64
import Derived.Laws.BitsAllLaws
import Derived.IntWalk
import Derived.Outline
import Derived.WalkSpells
import Derived.Test.YtloemjhhedkhiaaMem
import Derived.Test.YtloemjhhedkhiaaNa
namespace Go.Proofs.Ytloemjhhedkhiaa.Nt
open Go.RowKit Go.Proofs.Ytloemjhhedkhiaa.Mem Go.Proofs.Ytloemjhhedkhiaa.Pk
set_option linter.unusedVariables false
set_option linter.unusedSimpArgs false

theorem end_nil : (str []).toList.isEmpty = true := by
  rw [ByteArray.toList_eq]
  rfl
theorem nums_nil {s : ByteArray} (h : s.toList.isEmpty = true) : nums s = [] := by
  rw [ByteArray.toList_eq, List.isEmpty_iff] at h
  unfold nums
  rw [h]
  rfl
theorem p4 {n : Int} (h : 0 ≤ n ∧ n ≤ 4294967295) : n.toNat < 256 ^ 4 ∧ ((n.toNat : Nat) : Int) = n := by
  refine ⟨?_, by omega⟩
  simp only [Nat.reducePow]
  omega
theorem read_back {a : AnsV} (h : ansOk a = true) (hp : PassOk a) : readV (str (ansB a)) = (128, a, false, (str [], false)) := by
  unfold ansOk payOk at h
  simp only [Bool.and_eq_true, decide_eq_true_eq] at h
  obtain ⟨h1, ⟨h2, h3⟩, h4, ⟨h5, h6⟩, h7⟩ := h
  obtain ⟨a1, b1, d1⟩ := c4 h1
  obtain ⟨a5, b5, d5⟩ := c4 h5
  obtain ⟨a6, b6, d6⟩ := c4 h6
  obtain ⟨a2, b2⟩ := c1 (n := a.code) (by rw [byt_iff]; omega)
  obtain ⟨a3, b3⟩ := p4 hp
  have l7 := calls_lt a.calls
  have l6 := all_app (beB_lt 2 a.calls.length) l7
  have l5 := all_app (beB_lt 4 a.pass.toNat) l6
  have l4 := all_app (beB_lt 4 a.session.toNat) l5
  have l3 := all_app (beB_lt 4 a.index.toNat) l4
  have l2 := all_app (beB_lt 1 a.code.toNat) l3
  have l1 := all_app (beB_lt 4 a.seq.toNat) l2
  have e0 := rd1 l1 (n := 128) (by decide)
  have e1 := rd4 l2 a1
  have e2 := rd1 l3 a2
  have e3 := rd4 l4 a5
  have e4 := rd4 l5 a6
  have e5 := rd4 l6 a3
  have e6 := rd2 l7 (n := a.calls.length) (by simp only [Nat.reducePow]; omega)
  have e7 := calls_back a.calls h7 (r := []) (by simp)
  rw [List.append_nil] at e7
  have e8 : decide (64 < ((a.calls.length : Nat) : Int)) = false := by simp; omega
  unfold readV ansB headB payB
  simp only [List.append_assoc]
  rw [e0]
  simp only []
  rw [e1]
  simp only []
  rw [e2]
  simp only []
  rw [e3]
  simp only []
  rw [e4]
  simp only []
  rw [e5]
  simp only []
  rw [e6]
  simp only [e8, cond_false]
  rw [e7]
  simp only [d1, d5, d6, b1, b2, b3, b5, b6, Bool.or_false, Bool.false_eq_true, if_false]
theorem bif_false {c x : Bool} (h : (bif c then true else x) = false) : c = false ∧ x = false := by
  cases c
  · exact ⟨rfl, h⟩
  · cases h
theorem read_not {s : ByteArray} (h : readOk s = true) : ansOk (readV s).2.1 = true ∧ PassOk (readV s).2.1 ∧ s = str (ansB (readV s).2.1) := by
  unfold readOk at h
  simp only [Bool.and_eq_true, beq_iff_eq, Bool.not_eq_true', decide_eq_true_eq] at h
  obtain ⟨h1, h2, h3, h4, h5⟩ := h
  unfold readV at h1 h2 h3 h4 h5 ⊢
  simp only [Bool.or_eq_false_iff] at h1 h2 h3 h4 h5 ⊢
  obtain ⟨⟨⟨g1, g2⟩, g3⟩, g4⟩ := h3
  obtain ⟨k1, k2, k3, k4⟩ := calls_not _ _ h4 g4
  simp only at k1 k2 k3 k4
  rw [if_neg (by rw [h4]; decide)]
  obtain ⟨m1, m2⟩ := bif_false k1
  obtain ⟨f7, n7, t7⟩ := rn2 m2
  obtain ⟨f6, n6, t6⟩ := rn4 f7
  obtain ⟨f5, n5, t5⟩ := rn4 f6
  obtain ⟨f4, n4, t4⟩ := rn4 f5
  obtain ⟨f3, n3, t3⟩ := rn1 f4
  obtain ⟨f2, n2, t2⟩ := rn4 f3
  obtain ⟨f1, n1, t1⟩ := rn1 f2
  refine ⟨?_, ?_, nums_inj ?_⟩
  · unfold ansOk payOk
    simp only [Bool.and_eq_true, decide_eq_true_eq]
    exact ⟨cnt_of g1, ⟨Int.natCast_nonneg _, h2⟩, by rw [k4]; have := of_decide_eq_false m1; omega, ⟨cnt_of g2, cnt_of g3⟩, k3⟩
  · unfold PassOk
    simp only [Nat.reducePow] at t6
    simp only
    omega
  · rw [nums_str _ (ans_lt _)]
    rw [h1] at n1
    rw [nums_nil h5, List.append_nil] at k2
    unfold ansB headB payB
    simp only [List.append_assoc, Int.toNat_natCast, k4]
    exact n1.trans (congrArg _ (n2.trans (congrArg _ (n3.trans (congrArg _ (n4.trans (congrArg _ (n5.trans (congrArg _ (n6.trans (congrArg _ (n7.trans (congrArg _ k2)))))))))))))
theorem decode_back {a : AnsV} (h : ansOk a = true) (hp : PassOk a) : decodeV (str (ansB a)) = (a, 0) := by
  have e := read_back h hp
  have h2 : readOk (str (ansB a)) = true := by
    unfold ansOk payOk at h
    simp only [Bool.and_eq_true, decide_eq_true_eq] at h
    unfold readOk
    rw [e]
    simp [end_nil, h.2.1.2]
  unfold decodeV
  rw [h2, e]
  rfl
theorem decode_is {s : ByteArray} (h : (decodeV s).2 = 0) : ansOk (decodeV s).1 = true ∧ PassOk (decodeV s).1 ∧ s = str (ansB (decodeV s).1) := by
  cases hr : readOk s with
  | true =>
    have e : decodeV s = ((readV s).2.1, 0) := by unfold decodeV; rw [hr]; rfl
    rw [e]
    exact read_not hr
  | false =>
    unfold decodeV at h
    rw [hr] at h
    cases h
theorem decode_no {s : ByteArray} (h : (decodeV s).2 ≠ 0) : decodeV s = (zeroA, 4) := by
  unfold decodeV at h ⊢
  cases hr : readOk s with
  | true => rw [hr] at h; exact absurd rfl h
  | false => rfl
theorem ans_inj {a b : AnsV} (ha : ansOk a = true) (hpa : PassOk a) (hb : ansOk b = true) (hpb : PassOk b) (h : ansB a = ansB b) : a = b := by
  have e := decode_back ha hpa
  rw [h, decode_back hb hpb] at e
  exact (congrArg Prod.fst e).symm
theorem ans_split (a : AnsV) : str (ansB a) = str (headB a.seq) ++ str (payB a) := str_more _ _
theorem head_len (n : Int) : (headB n).length = 5 := by unfold headB; rw [List.length_append, beB_length, beB_length]
/-- a payload goes with any number -/
theorem pay_seq {a : AnsV} (n : Int) : payB { a with seq := n } = payB a := rfl
theorem with_back {a : AnsV} (h : ansOk a = true) (hp : PassOk a) {n : Int} (hn : cnt n = true) : withV n (payloadV a) = (str (ansB { a with seq := n }), 0) := by
  have h1 : ansOk { a with seq := n } = true := by
    unfold ansOk at h ⊢
    simp only [Bool.and_eq_true] at h ⊢
    exact ⟨hn, h.2⟩
  have h2 : PassOk { a with seq := n } := hp
  have e : str (headB n) ++ payloadV a = str (ansB { a with seq := n }) := by
    unfold payloadV
    rw [h]
    exact (ans_split { a with seq := n }).symm
  unfold withV
  rw [e, decode_back h1 h2, hn]
  rfl
theorem with_no {n : Int} (hn : cnt n = false) (p : ByteArray) : withV n p = (⟨#[]⟩, 1) := by
  unfold withV
  rw [hn]
  rfl
theorem pay_inj {a b : AnsV} (ha : ansOk a = true) (hpa : PassOk a) (hb : ansOk b = true) (hpb : PassOk b) (h : payloadV a = payloadV b) : { b with seq := a.seq } = a := by
  have ca : cnt a.seq = true := by unfold ansOk at ha; simp only [Bool.and_eq_true] at ha; exact ha.1
  have h1 := with_back ha hpa ca
  have h2 := with_back hb hpb ca
  rw [h, h2] at h1
  have h3 := congrArg Prod.fst h1
  have ob : ansOk { b with seq := a.seq } = true := by
    unfold ansOk at hb ⊢
    simp only [Bool.and_eq_true] at hb ⊢
    exact ⟨ca, hb.2⟩
  exact ans_inj (a := { b with seq := a.seq }) (b := { a with seq := a.seq }) ob hpb ha hpa (str_inj (ans_lt _) (ans_lt _) h3)
/-! notices -/
structure ChgV where
  index : Int
  call : CallV
  car : Int
  mode : Int
structure NoteV where
  index : Int
  chg : ChgV
instance : DecidableEq ChgV := fun x y => if h : x.index = y.index ∧ x.call = y.call ∧ x.car = y.car ∧ x.mode = y.mode then isTrue (by cases x; cases y; simp_all) else isFalse (fun e => h (by subst e; simp))
instance : DecidableEq NoteV := fun x y => if h : x.index = y.index ∧ x.chg = y.chg then isTrue (by cases x; cases y; simp_all) else isFalse (fun e => h (by subst e; simp))
def zeroC : CallV := ⟨0, 0, 0, 0, 0, 0, 0, 0⟩
def zeroG : ChgV := ⟨0, zeroC, 0, 0⟩
def zeroN : NoteV := ⟨0, zeroG⟩
def headN (i : Int) : List Nat := beB 1 129 ++ beB 4 i.toNat
def carOk (x : ChgV) : Bool := (decide (0 < x.car) && decide (0 < x.mode)) && (byt x.car && byt x.mode)
def tellL (n : NoteV) : Option (List Nat) :=
  bif cnt n.index then
    (bif decide (n.chg = zeroG) then some (headN n.index ++ beB 1 0)
    else bif n.chg.index != n.index then none
    else bif !(decide (n.chg.call = zeroC)) then (bif ((n.chg.car == 0) && (n.chg.mode == 0)) && callOk n.chg.call then some (headN n.index ++ (beB 1 1 ++ callB n.chg.call)) else none)
    else bif carOk n.chg then some (headN n.index ++ (beB 1 2 ++ (beB 1 n.chg.car.toNat ++ beB 1 n.chg.mode.toNat))) else none)
  else none
def tellV (n : NoteV) : ByteArray × Int := match tellL n with
  | some l => (str l, 0)
  | none => (⟨#[]⟩, 1)
def readN (s : ByteArray) : NoteV × Bool × (ByteArray × Bool) :=
  let a := inNumV s false 1
  let b := inNumV a.2.1 a.2.2 4
  let c := inNumV b.2.1 b.2.2 1
  if c.1 = 1 then (⟨b.1, ⟨b.1, (dCall c.2).1, 0, 0⟩⟩, decide (1073741824 < (b.1 : Int)) || (dCall c.2).2.1, (dCall c.2).2.2)
  else if c.1 = 2 then
    let d := inNumV c.2.1 c.2.2 1
    let e := inNumV d.2.1 d.2.2 1
    (⟨b.1, ⟨b.1, zeroC, d.1, e.1⟩⟩, decide (1073741824 < (b.1 : Int)), e.2)
  else (⟨b.1, zeroG⟩, decide (1073741824 < (b.1 : Int)), c.2)
def toldV (s : ByteArray) : NoteV × Int := bif ((tellV (readN s).1).2 == 0) && (((tellV (readN s).1).1.toList == s.toList) && (!(readN s).2.1 && (!(readN s).2.2.2 && (readN s).2.2.1.toList.isEmpty))) then ((readN s).1, 0) else (zeroN, 4)
theorem headN_lt (n : Int) : ∀ c ∈ headN n, c < 256 := all_app (beB_lt _ _) (beB_lt _ _)
theorem list_beq {x y : ByteArray} (h : (x.toList == y.toList) = true) : x = y := by
  rw [beq_iff_eq, ByteArray.toList_eq, ByteArray.toList_eq] at h
  exact ByteArray.ext (Array.toList_inj.1 h)
theorem tell_cases {n : NoteV} {l : List Nat} (h : tellL n = some l) : cnt n.index = true ∧ ((n = ⟨n.index, zeroG⟩ ∧ l = headN n.index ++ beB 1 0) ∨
    (n = ⟨n.index, ⟨n.index, n.chg.call, 0, 0⟩⟩ ∧ callOk n.chg.call = true ∧ l = headN n.index ++ (beB 1 1 ++ callB n.chg.call)) ∨
    (n = ⟨n.index, ⟨n.index, zeroC, n.chg.car, n.chg.mode⟩⟩ ∧ byt n.chg.car = true ∧ byt n.chg.mode = true ∧ l = headN n.index ++ (beB 1 2 ++ (beB 1 n.chg.car.toNat ++ beB 1 n.chg.mode.toNat)))) := by
  obtain ⟨i, j, call, car, mode⟩ := n
  unfold tellL at h
  cases hc : cnt i with
  | false => rw [hc] at h; cases h
  | true =>
    rw [hc] at h
    refine ⟨rfl, ?_⟩
    simp only [cond_true] at h
    by_cases hz : (⟨j, call, car, mode⟩ : ChgV) = zeroG
    · rw [decide_eq_true hz] at h
      simp only [cond_true] at h
      exact .inl ⟨by rw [hz], (Option.some.inj h).symm⟩
    · rw [decide_eq_false hz] at h
      simp only [cond_false] at h
      cases hj : (j != i) with
      | true => rw [hj] at h; cases h
      | false =>
        rw [hj] at h
        obtain rfl : j = i := by simpa using hj
        simp only [cond_false] at h
        by_cases hk : call = zeroC
        · rw [decide_eq_true hk] at h
          simp only [Bool.not_true, cond_false] at h
          cases ho : carOk ⟨j, call, car, mode⟩ with
          | false => rw [ho] at h; cases h
          | true =>
            rw [ho] at h
            unfold carOk at ho
            simp only [Bool.and_eq_true] at ho
            subst hk
            exact .inr (.inr ⟨rfl, ho.2.1, ho.2.2, (Option.some.inj h).symm⟩)
        · rw [decide_eq_false hk] at h
          simp only [Bool.not_false, cond_true] at h
          cases ho : ((car == 0) && (mode == 0)) && callOk call with
          | false => rw [ho] at h; cases h
          | true =>
            rw [ho] at h
            simp only [Bool.and_eq_true, beq_iff_eq] at ho
            obtain ⟨⟨rfl, rfl⟩, h3⟩ := ho
            exact .inr (.inl ⟨rfl, h3, (Option.some.inj h).symm⟩)
theorem tell_lt {n : NoteV} {l : List Nat} (h : tellL n = some l) : ∀ c ∈ l, c < 256 := by
  obtain ⟨_, ⟨_, rfl⟩ | ⟨_, _, rfl⟩ | ⟨_, _, _, rfl⟩⟩ := tell_cases h
  · exact all_app (headN_lt _) (beB_lt _ _)
  · exact all_app (headN_lt _) (all_app (beB_lt _ _) (call_lt _))
  · exact all_app (headN_lt _) (all_app (beB_lt _ _) (all_app (beB_lt _ _) (beB_lt _ _)))
theorem readN_back {n : NoteV} {l : List Nat} (h : tellL n = some l) : readN (str l) = (n, false, (str [], false)) := by
  obtain ⟨hc, hx⟩ := tell_cases h
  obtain ⟨a1, b1, d1⟩ := c4 hc
  rcases hx with ⟨hn, rfl⟩ | ⟨hn, h2, rfl⟩ | ⟨hn, h2, h3, rfl⟩
  · have l2 := beB_lt 1 0
    have l1 := all_app (beB_lt 4 n.index.toNat) l2
    have e0 := rd1 l1 (n := 129) (by decide)
    have e1 := rd4 l2 a1
    have e2 := rd1 (r := []) (by simp) (n := 0) (by decide)
    rw [List.append_nil] at e2
    unfold readN headN
    simp only [List.append_assoc]
    rw [e0]
    simp only []
    rw [e1]
    simp only []
    rw [e2]
    simp only [b1, d1]
    rw [if_neg (by decide), if_neg (by decide)]
    rw [← hn]
  · have l3 := call_lt n.chg.call
    have l2 := all_app (beB_lt 1 1) l3
    have l1 := all_app (beB_lt 4 n.index.toNat) l2
    have e0 := rd1 l1 (n := 129) (by decide)
    have e1 := rd4 l2 a1
    have e2 := rd1 l3 (n := 1) (by decide)
    have e3 := call_back h2 (r := []) (by simp)
    rw [List.append_nil] at e3
    unfold readN headN
    simp only [List.append_assoc]
    rw [e0]
    simp only []
    rw [e1]
    simp only []
    rw [e2]
    simp only [e3, b1, d1]
    rw [if_pos trivial, ← hn]
    rfl
  · obtain ⟨a2, b2⟩ := c1 h2
    obtain ⟨a3, b3⟩ := c1 h3
    have l4 := beB_lt 1 n.chg.mode.toNat
    have l3 := all_app (beB_lt 1 n.chg.car.toNat) l4
    have l2 := all_app (beB_lt 1 2) l3
    have l1 := all_app (beB_lt 4 n.index.toNat) l2
    have e0 := rd1 l1 (n := 129) (by decide)
    have e1 := rd4 l2 a1
    have e2 := rd1 l3 (n := 2) (by decide)
    have e3 := rd1 l4 a2
    have e4 := rd1 (r := []) (by simp) a3
    rw [List.append_nil] at e4
    unfold readN headN
    simp only [List.append_assoc]
    rw [e0]
    simp only []
    rw [e1]
    simp only []
    rw [e2]
    simp only []
    rw [if_neg (by decide), if_pos trivial, e3]
    simp only []
    rw [e4]
    simp only [b1, b2, b3, d1]
    rw [← hn]
theorem told_back {n : NoteV} {l : List Nat} (h : tellL n = some l) : toldV (str l) = (n, 0) := by
  have e := readN_back h
  have e2 : tellV n = (str l, 0) := by unfold tellV; rw [h]
  unfold toldV
  rw [e]
  simp only [e2, end_nil]
  simp
theorem told_is {s : ByteArray} (h : (toldV s).2 = 0) : tellV (toldV s).1 = (s, 0) := by
  unfold toldV at h ⊢
  cases hb : ((tellV (readN s).1).2 == 0) && (((tellV (readN s).1).1.toList == s.toList) && (!(readN s).2.1 && (!(readN s).2.2.2 && (readN s).2.2.1.toList.isEmpty))) with
  | false => rw [hb] at h; cases h
  | true =>
    simp only [cond_true]
    simp only [Bool.and_eq_true, beq_iff_eq] at hb
    have h1 := list_beq (by rw [beq_iff_eq]; exact hb.2.1 : ((tellV (readN s).1).1.toList == s.toList) = true)
    exact Prod.ext h1 hb.1
theorem told_no {s : ByteArray} (h : (toldV s).2 ≠ 0) : toldV s = (zeroN, 4) := by
  unfold toldV at h ⊢
  cases hb : ((tellV (readN s).1).2 == 0) && (((tellV (readN s).1).1.toList == s.toList) && (!(readN s).2.1 && (!(readN s).2.2.2 && (readN s).2.2.1.toList.isEmpty))) with
  | true => rw [hb] at h; exact absurd rfl h
  | false => rfl
theorem tell_ok {n : NoteV} (h : (tellV n).2 = 0) : ∃ l, tellL n = some l ∧ tellV n = (str l, 0) := by
  unfold tellV at h ⊢
  cases ht : tellL n with
  | none => rw [ht] at h; cases h
  | some l => exact ⟨l, rfl, rfl⟩
theorem tell_no {n : NoteV} (h : (tellV n).2 ≠ 0) : tellV n = (⟨#[]⟩, 1) := by
  unfold tellV at h ⊢
  cases ht : tellL n with
  | some l => rw [ht] at h; exact absurd rfl h
  | none => rfl
theorem tell_head {n : NoteV} {l : List Nat} (h : tellL n = some l) : ∃ m, l = 129 :: m := by
  obtain ⟨_, ⟨_, rfl⟩ | ⟨_, _, rfl⟩ | ⟨_, _, _, rfl⟩⟩ := tell_cases h
  all_goals exact ⟨_, rfl⟩
theorem ans_head (a : AnsV) : ∃ m, ansB a = 128 :: m := ⟨_, rfl⟩
theorem told_ans (a : AnsV) : (toldV (str (ansB a))).2 ≠ 0 := fun h => by
  have h1 := told_is h
  obtain ⟨l, h2, h3⟩ := tell_ok (n := (toldV (str (ansB a))).1) (by rw [h1])
  rw [h1] at h3
  have h4 := str_inj (ans_lt a) (tell_lt h2) (congrArg Prod.fst h3)
  obtain ⟨m, hm⟩ := tell_head h2
  obtain ⟨k, hk⟩ := ans_head a
  rw [hm, hk] at h4
  cases h4
theorem decode_note {n : NoteV} {l : List Nat} (h : tellL n = some l) : decodeV (str l) = (zeroA, 4) := decode_no fun h0 => by
  obtain ⟨_, _, h3⟩ := decode_is h0
  have h4 := str_inj (tell_lt h) (ans_lt _) h3
  obtain ⟨m, hm⟩ := tell_head h
  obtain ⟨k, hk⟩ := ans_head (decodeV (str l)).1
  rw [hk] at h4
  rw [hm] at h4
  cases h4
theorem tell_inj {n m : NoteV} {l : List Nat} (h : tellL n = some l) (h2 : tellL m = some l) : n = m := by
  have e := told_back h
  rw [told_back h2] at e
  exact (congrArg Prod.fst e).symm
end Go.Proofs.Ytloemjhhedkhiaa.Nt
