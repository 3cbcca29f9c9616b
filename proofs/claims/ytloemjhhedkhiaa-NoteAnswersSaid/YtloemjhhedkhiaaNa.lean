/- Layer 15: plain laws of an answer's bytes, with no program in sight. -/
import Derived.Test.YtloemjhhedkhiaaProg
import Derived.Below
import Derived.WalkKit
import Derived.KernelRfl
import Derived.RowKit3
import Derived.Deep.LoopGhost
import Derived.Deep.QuietTactic
import Derived.BigQuiet
import Derived.WideLaws
import Derived.Deep.DeepCutAuto
import Derived.Deep.CutBlock
import Derived.Lib.Hide
import Derived.Laws.BitsLemmas
import Derived.Laws.Bits64
import Derived.Laws.BitsAllLaws
import Derived.IntWalk
import Derived.Outline
import Derived.WalkSpells
import Derived.Test.YtloemjhhedkhiaaMem
import Derived.Test.YtloemjhhedkhiaaPkR
namespace Go.Proofs.Ytloemjhhedkhiaa.Nt
open Go.RowKit Go.Proofs.Ytloemjhhedkhiaa.Mem Go.Proofs.Ytloemjhhedkhiaa.Pk
set_option linter.unusedVariables false
set_option linter.unusedSimpArgs false

structure CallV where
  id : Int
  kind : Int
  src : Int
  dst : Int
  car : Int
  state : Int
  owner : Int
  born : Int
instance : DecidableEq CallV := fun x y => if h : x.id = y.id ∧ x.kind = y.kind ∧ x.src = y.src ∧ x.dst = y.dst ∧ x.car = y.car ∧ x.state = y.state ∧ x.owner = y.owner ∧ x.born = y.born then isTrue (by cases x; cases y; simp_all) else isFalse (fun e => h (by subst e; simp))
structure AnsV where
  seq : Int
  code : Int
  index : Int
  session : Int
  pass : Int
  calls : List CallV
def cnt (n : Int) : Bool := decide (0 ≤ n) && decide (n ≤ 1073741824)
def byt (n : Int) : Bool := decide (0 ≤ n) && decide (n ≤ 255)
theorem cnt_iff (n : Int) : cnt n = true ↔ 0 ≤ n ∧ n ≤ 1073741824 := by unfold cnt; simp
theorem byt_iff (n : Int) : byt n = true ↔ 0 ≤ n ∧ n ≤ 255 := by unfold byt; simp
def callOk (x : CallV) : Bool := cnt x.id && (byt x.kind && (byt x.src && (byt x.dst && (byt x.car && byt x.state)))) && (cnt x.owner && cnt x.born)
def callB (x : CallV) : List Nat := beB 4 x.id.toNat ++ (beB 1 x.kind.toNat ++ (beB 1 x.src.toNat ++ (beB 1 x.dst.toNat ++ (beB 1 x.car.toNat ++ (beB 1 x.state.toNat ++ (beB 4 x.owner.toNat ++ beB 4 x.born.toNat))))))
def callsB (l : List CallV) : List Nat := (l.map callB).flatten
def payB (a : AnsV) : List Nat := beB 1 a.code.toNat ++ (beB 4 a.index.toNat ++ (beB 4 a.session.toNat ++ (beB 4 a.pass.toNat ++ (beB 2 a.calls.length ++ callsB a.calls))))
def payOk (a : AnsV) : Bool := (decide (0 ≤ a.code) && decide (a.code ≤ 11)) && (decide (a.calls.length ≤ 64) && (cnt a.index && cnt a.session && a.calls.all callOk))
def headB (seq : Int) : List Nat := beB 1 128 ++ beB 4 seq.toNat
def ansB (a : AnsV) : List Nat := headB a.seq ++ payB a
def ansOk (a : AnsV) : Bool := cnt a.seq && payOk a
/-- the pass is one of 32 bits -/
def PassOk (a : AnsV) : Prop := 0 ≤ a.pass ∧ a.pass ≤ 4294967295
def zeroA : AnsV := ⟨0, 0, 0, 0, 0, []⟩
def encodeV (a : AnsV) : ByteArray × Int := bif ansOk a then (str (ansB a), 0) else (⟨#[]⟩, 1)
def payloadV (a : AnsV) : ByteArray := bif ansOk a then str (payB a) else ⟨#[]⟩
/-- a call that is read: it, whether a number of it is too great, what is left -/
def dCall (s : ByteArray × Bool) : CallV × Bool × (ByteArray × Bool) :=
  let a := inNumV s.1 s.2 4
  let b := inNumV a.2.1 a.2.2 1
  let c := inNumV b.2.1 b.2.2 1
  let d := inNumV c.2.1 c.2.2 1
  let e := inNumV d.2.1 d.2.2 1
  let f := inNumV e.2.1 e.2.2 1
  let g := inNumV f.2.1 f.2.2 4
  let h := inNumV g.2.1 g.2.2 4
  (⟨a.1, b.1, c.1, d.1, e.1, f.1, g.1, h.1⟩, (decide (1073741824 < (a.1 : Int)) || decide (1073741824 < (g.1 : Int))) || decide (1073741824 < (h.1 : Int)), h.2)
def dCalls : Nat → ByteArray × Bool → List CallV × Bool × (ByteArray × Bool)
  | 0, s => ([], false, s)
  | n + 1, s => if s.2 = true then ([], false, s) else ((dCall s).1 :: (dCalls n (dCall s).2.2).1, (dCall s).2.1 || (dCalls n (dCall s).2.2).2.1, (dCalls n (dCall s).2.2).2.2)
/-- what an answer's bytes say: the kind, the answer, whether a number is too great, what is left -/
def readV (s : ByteArray) : Nat × AnsV × Bool × (ByteArray × Bool) :=
  let a := inNumV s false 1
  let b := inNumV a.2.1 a.2.2 4
  let c := inNumV b.2.1 b.2.2 1
  let d := inNumV c.2.1 c.2.2 4
  let e := inNumV d.2.1 d.2.2 4
  let f := inNumV e.2.1 e.2.2 4
  let g := inNumV f.2.1 f.2.2 2
  let h := dCalls g.1 (g.2.1, bif decide (64 < (g.1 : Int)) then true else g.2.2)
  (a.1, ⟨b.1, c.1, d.1, e.1, f.1, if h.2.2.2 = true then [] else h.1⟩, ((decide (1073741824 < (b.1 : Int)) || decide (1073741824 < (d.1 : Int))) || decide (1073741824 < (e.1 : Int))) || h.2.1, h.2.2)
def readOk (s : ByteArray) : Bool := ((readV s).1 == 128) && (decide ((readV s).2.1.code ≤ 11) && (!(readV s).2.2.1 && (!(readV s).2.2.2.2 && (readV s).2.2.2.1.toList.isEmpty)))
def decodeV (s : ByteArray) : AnsV × Int := bif readOk s then ((readV s).2.1, 0) else (zeroA, 4)
def withV (seq : Int) (p : ByteArray) : ByteArray × Int := bif cnt seq && ((decodeV (str (headB seq) ++ p)).2 == 0) then (str (headB seq) ++ p, 0) else (⟨#[]⟩, 1)

theorem beL_beB : ∀ (k n : Nat), beL (beB k n) = n % 256 ^ k
  | 0, n => by simp [beB, beL, Nat.mod_one]
  | k + 1, n => by
    rw [beB, beL_snoc, beL_beB k (n / 256), Nat.pow_succ, Nat.mul_comm (256 ^ k) 256, Nat.mod_mul]
    omega
theorem beB_beL : ∀ (n : Nat) (l : List Nat), l.length = n → (∀ c ∈ l, c < 256) → beB n (beL l) = l
  | 0, l, h, _ => by
    obtain rfl := List.length_eq_zero_iff.1 h
    rfl
  | n + 1, l, h, hc => by
    rcases List.eq_nil_or_concat l with rfl | ⟨m, b, rfl⟩
    · cases h
    · rw [List.concat_eq_append] at *
      rw [beL_snoc, beB]
      have hb : b < 256 := hc b (by simp)
      rw [show (beL m * 256 + b) / 256 = beL m by omega, show (beL m * 256 + b) % 256 = b by omega, beB_beL n m (by simpa using h) (fun c h => hc c (by simp [h]))]
theorem str_extract_tail (a b : List Nat) (n : Nat) (hn : a.length = n) (m : Nat) (hm : m = (str (a ++ b)).size) : (str (a ++ b)).extract n m = str b := by
  subst hn
  subst hm
  apply ByteArray.ext
  rw [ByteArray.data_extract, str_size]
  apply Array.ext'
  simp [str]
  rw [List.take_of_length_le (by simp)]
theorem nums_extract (s : ByteArray) (n : Nat) : nums (s.extract n s.size) = (nums s).drop n := by
  have h : s = str (nums s) := (str_nums s).symm
  rcases Nat.lt_or_ge (nums s).length n with h1 | h1
  · rw [List.drop_eq_nil_of_le (by omega)]
    have : (s.extract n s.size).size = 0 := by rw [nums_length] at h1; simp; omega
    rw [← nums_length] at this
    exact List.length_eq_zero_iff.1 this
  · have h2 : s = str ((nums s).take n ++ (nums s).drop n) := by rw [List.take_append_drop]; exact h
    have h3 := str_extract_tail ((nums s).take n) ((nums s).drop n) n (by simp; omega) _ rfl
    rw [← h2] at h3
    rw [h3, nums_str]
    intro c hc
    exact nums_lt s c (List.mem_of_mem_drop hc)
theorem be_str (k n : Nat) (r : List Nat) (hr : ∀ c ∈ r, c < 256) : be (str (beB k n ++ r)) k = n % 256 ^ k := by
  unfold be
  rw [nums_str _ (by intro c hc; rcases List.mem_append.1 hc with h | h; exact beB_lt k n c h; exact hr c h), List.take_left' (beB_length k n), beL_beB]
/-- a number that was written is read -/
theorem rd_back {k n : Nat} (hk : k = 1 ∨ k = 2 ∨ k = 4) {r : List Nat} (hr : ∀ c ∈ r, c < 256) (hn : n < 256 ^ k) : inNumV (str (beB k n ++ r)) false k = (n, str r, false) := by
  have h1 : be (str (beB k n ++ r)) k = n := by rw [be_str k n r hr, Nat.mod_eq_of_lt hn]
  have hl : k ≤ (str (beB k n ++ r)).size := by rw [str_size, List.length_append, beB_length]; omega
  have hw : wide k = true := by rcases hk with rfl | rfl | rfl <;> rfl
  have h63 : n < 9223372036854775808 := by
    rcases hk with rfl | rfl | rfl <;> (simp at hn; omega)
  unfold inNumV
  rw [show (k : Int).toNat = k from rfl, if_pos ⟨rfl, hw, by omega, by rw [h1]; exact h63⟩, h1, str_extract_tail _ _ k (beB_length _ _) _ rfl]
theorem rd_bad (s : ByteArray) (k : Int) : inNumV s true k = (0, s, true) := by
  unfold inNumV
  rw [if_neg (by simp)]
/-- a number that was read stands there -/
theorem rd_not {k : Nat} {s : ByteArray} {b : Bool} (h : (inNumV s b k).2.2 = false) : b = false ∧ nums s = beB k (inNumV s b k).1 ++ nums (inNumV s b k).2.1 ∧ (inNumV s b k).1 < 256 ^ k := by
  unfold inNumV at h ⊢
  split
  · rename_i h1
    obtain ⟨h1, h2, h3, h4⟩ := h1
    have hk : k ≤ s.size := by omega
    refine ⟨h1, ?_, be_lt s k hk⟩
    simp only [Int.toNat_natCast]
    have e1 : beB k (be s k) = (nums s).take k := beB_beL k _ (by rw [List.length_take, nums_length]; omega) (fun c hc => nums_lt s c (List.mem_of_mem_take hc))
    rw [e1, nums_extract, List.take_append_drop]
  · rename_i h1
    rw [if_neg h1] at h
    cases h
theorem rd1 {n : Nat} {r : List Nat} (hr : ∀ c ∈ r, c < 256) (hn : n < 256 ^ 1) : inNumV (str (beB 1 n ++ r)) false 1 = (n, str r, false) := rd_back (k := 1) (by simp) hr hn
theorem rd2 {n : Nat} {r : List Nat} (hr : ∀ c ∈ r, c < 256) (hn : n < 256 ^ 2) : inNumV (str (beB 2 n ++ r)) false 2 = (n, str r, false) := rd_back (k := 2) (by simp) hr hn
theorem rd4 {n : Nat} {r : List Nat} (hr : ∀ c ∈ r, c < 256) (hn : n < 256 ^ 4) : inNumV (str (beB 4 n ++ r)) false 4 = (n, str r, false) := rd_back (k := 4) (by simp) hr hn
theorem rn1 {s : ByteArray} {b : Bool} (h : (inNumV s b 1).2.2 = false) : b = false ∧ nums s = beB 1 (inNumV s b 1).1 ++ nums (inNumV s b 1).2.1 ∧ (inNumV s b 1).1 < 256 ^ 1 := rd_not (k := 1) h
theorem rn2 {s : ByteArray} {b : Bool} (h : (inNumV s b 2).2.2 = false) : b = false ∧ nums s = beB 2 (inNumV s b 2).1 ++ nums (inNumV s b 2).2.1 ∧ (inNumV s b 2).1 < 256 ^ 2 := rd_not (k := 2) h
theorem rn4 {s : ByteArray} {b : Bool} (h : (inNumV s b 4).2.2 = false) : b = false ∧ nums s = beB 4 (inNumV s b 4).1 ++ nums (inNumV s b 4).2.1 ∧ (inNumV s b 4).1 < 256 ^ 4 := rd_not (k := 4) h
theorem nums_inj {s t : ByteArray} (h : nums s = nums t) : s = t := by rw [← str_nums s, h, str_nums]
theorem str_inj {a b : List Nat} (ha : ∀ c ∈ a, c < 256) (hb : ∀ c ∈ b, c < 256) (h : str a = str b) : a = b := by rw [← nums_str a ha, h, nums_str b hb]
theorem str_more (a b : List Nat) : str (a ++ b) = str a ++ str b := by
  apply ByteArray.ext
  simp [str, ByteArray.data_append]
theorem all_app {a b : List Nat} (ha : ∀ c ∈ a, c < 256) (hb : ∀ c ∈ b, c < 256) : ∀ c ∈ a ++ b, c < 256 := by
  intro c hc
  rcases List.mem_append.1 hc with h | h
  · exact ha c h
  · exact hb c h
theorem call_lt (x : CallV) : ∀ c ∈ callB x, c < 256 := by
  unfold callB
  repeat (first | exact beB_lt _ _ | refine all_app (beB_lt _ _) ?_)
theorem calls_lt (l : List CallV) : ∀ c ∈ callsB l, c < 256 := by
  intro c hc
  unfold callsB at hc
  obtain ⟨m, hm, h⟩ := List.mem_flatten.1 hc
  obtain ⟨x, _, rfl⟩ := List.mem_map.1 hm
  exact call_lt x c h
theorem pay_lt (a : AnsV) : ∀ c ∈ payB a, c < 256 := by
  unfold payB
  refine all_app (beB_lt _ _) (all_app (beB_lt _ _) (all_app (beB_lt _ _) (all_app (beB_lt _ _) (all_app (beB_lt _ _) (calls_lt _)))))
theorem head_lt (n : Int) : ∀ c ∈ headB n, c < 256 := all_app (beB_lt _ _) (beB_lt _ _)
theorem ans_lt (a : AnsV) : ∀ c ∈ ansB a, c < 256 := all_app (head_lt _) (pay_lt _)
theorem c4 {n : Int} (h : cnt n = true) : n.toNat < 256 ^ 4 ∧ ((n.toNat : Nat) : Int) = n ∧ decide (1073741824 < n) = false := by
  rw [cnt_iff] at h
  have e : ((n.toNat : Nat) : Int) = n := by omega
  refine ⟨by simp only [Nat.reducePow]; omega, e, ?_⟩
  simp
  omega
theorem c1 {n : Int} (h : byt n = true) : n.toNat < 256 ^ 1 ∧ ((n.toNat : Nat) : Int) = n := by
  rw [byt_iff] at h
  exact ⟨by simp only [Nat.reducePow]; omega, by omega⟩
theorem call_back {x : CallV} (h : callOk x = true) {r : List Nat} (hr : ∀ c ∈ r, c < 256) : dCall (str (callB x ++ r), false) = (x, false, (str r, false)) := by
  unfold callOk at h
  simp only [Bool.and_eq_true] at h
  obtain ⟨⟨h1, h2, h3, h4, h5, h6⟩, h7, h8⟩ := h
  obtain ⟨a1, b1, d1⟩ := c4 h1
  obtain ⟨a7, b7, d7⟩ := c4 h7
  obtain ⟨a8, b8, d8⟩ := c4 h8
  obtain ⟨a2, b2⟩ := c1 h2
  obtain ⟨a3, b3⟩ := c1 h3
  obtain ⟨a4, b4⟩ := c1 h4
  obtain ⟨a5, b5⟩ := c1 h5
  obtain ⟨a6, b6⟩ := c1 h6
  have l8 := all_app (beB_lt 4 x.born.toNat) hr
  have l7 := all_app (beB_lt 4 x.owner.toNat) l8
  have l6 := all_app (beB_lt 1 x.state.toNat) l7
  have l5 := all_app (beB_lt 1 x.car.toNat) l6
  have l4 := all_app (beB_lt 1 x.dst.toNat) l5
  have l3 := all_app (beB_lt 1 x.src.toNat) l4
  have l2 := all_app (beB_lt 1 x.kind.toNat) l3
  unfold dCall callB
  simp only [List.append_assoc]
  have e1 := rd4 l2 a1
  have e2 := rd1 l3 a2
  have e3 := rd1 l4 a3
  have e4 := rd1 l5 a4
  have e5 := rd1 l6 a5
  have e6 := rd1 l7 a6
  have e7 := rd4 l8 a7
  have e8 := rd4 hr a8
  rw [e1]
  simp only []
  rw [e2]
  simp only []
  rw [e3]
  simp only []
  rw [e4]
  simp only []
  rw [e5]
  simp only []
  rw [e6]
  simp only []
  rw [e7]
  simp only []
  rw [e8]
  simp only [d1, d7, d8, b1, b2, b3, b4, b5, b6, b7, b8, Bool.or_false]
theorem cnt_of {n : Nat} (h : decide (1073741824 < (n : Int)) = false) : cnt (n : Int) = true := by
  rw [cnt_iff]
  have := of_decide_eq_false h
  omega
theorem byt_of {n : Nat} (h : n < 256 ^ 1) : byt (n : Int) = true := by
  rw [byt_iff]
  simp only [Nat.reducePow] at h
  omega
theorem call_not {s : ByteArray × Bool} (h : (dCall s).2.2.2 = false) (hb : (dCall s).2.1 = false) : s.2 = false ∧ nums s.1 = callB (dCall s).1 ++ nums (dCall s).2.2.1 ∧ callOk (dCall s).1 = true := by
  unfold dCall at h hb ⊢
  simp only [Bool.or_eq_false_iff] at hb
  simp only at h ⊢
  obtain ⟨f8, n8, t8⟩ := rn4 h
  obtain ⟨f7, n7, t7⟩ := rn4 f8
  obtain ⟨f6, n6, t6⟩ := rn1 f7
  obtain ⟨f5, n5, t5⟩ := rn1 f6
  obtain ⟨f4, n4, t4⟩ := rn1 f5
  obtain ⟨f3, n3, t3⟩ := rn1 f4
  obtain ⟨f2, n2, t2⟩ := rn1 f3
  obtain ⟨f1, n1, t1⟩ := rn4 f2
  refine ⟨f1, ?_, ?_⟩
  · rw [n1]
    unfold callB
    simp only [List.append_assoc, Int.toNat_natCast]
    exact congrArg _ (n2.trans (congrArg _ (n3.trans (congrArg _ (n4.trans (congrArg _ (n5.trans (congrArg _ (n6.trans (congrArg _ (n7.trans (congrArg _ n8))))))))))))
  · unfold callOk
    simp only [Bool.and_eq_true]
    exact ⟨⟨cnt_of hb.1.1, byt_of t2, byt_of t3, byt_of t4, byt_of t5, byt_of t6⟩, cnt_of hb.1.2, cnt_of hb.2⟩
theorem calls_back : ∀ (l : List CallV), l.all callOk = true → ∀ {r : List Nat}, (∀ c ∈ r, c < 256) → dCalls l.length (str (callsB l ++ r), false) = (l, false, (str r, false))
  | [], _, r, _ => rfl
  | x :: l, h, r, hr => by
    simp only [List.all_cons, Bool.and_eq_true] at h
    have e : callsB (x :: l) ++ r = callB x ++ (callsB l ++ r) := by simp [callsB]
    rw [e]
    have h1 := call_back h.1 (all_app (calls_lt l) hr)
    simp only [List.length_cons, dCalls, Bool.false_eq_true, if_false]
    rw [h1]
    simp only []
    rw [calls_back l h.2 hr]
    rfl
theorem calls_not : ∀ (n : Nat) (s : ByteArray × Bool), (dCalls n s).2.2.2 = false → (dCalls n s).2.1 = false → s.2 = false ∧ nums s.1 = callsB (dCalls n s).1 ++ nums (dCalls n s).2.2.1 ∧ (dCalls n s).1.all callOk = true ∧ (dCalls n s).1.length = n
  | 0, s, h, _ => ⟨h, by simp [dCalls, callsB], rfl, rfl⟩
  | n + 1, s, h, hb => by
    by_cases hs : s.2 = true
    · unfold dCalls at h
      rw [if_pos hs, hs] at h
      cases h
    · unfold dCalls at h hb ⊢
      rw [if_neg hs] at h hb ⊢
      simp only [Bool.or_eq_false_iff] at hb h ⊢
      obtain ⟨a1, a2, a3, a4⟩ := calls_not n (dCall s).2.2 h hb.2
      obtain ⟨b1, b2, b3⟩ := call_not a1 hb.1
      refine ⟨b1, ?_, ?_, ?_⟩
      · rw [b2, a2]
        simp [callsB]
      · simp only [List.all_cons, b3, a3, Bool.and_self]
      · simp [a4]
end Go.Proofs.Ytloemjhhedkhiaa.Nt
