/- CrcMath CrcF CrcG -/
import Derived.Laws.BitsAllLaws
import Derived.Test.YthflkhalipkdgaaProg
import Derived.Below
import Derived.WalkKit
import Derived.KernelRfl
import Derived.RowKit3
import Derived.Deep.LoopGhost
import Derived.Deep.QuietTactic
import Derived.BigQuiet
import Derived.WideLaws
import Derived.Deep.DeepCutAuto
import Derived.Deep.CutBlock
import Derived.Lib.Hide
import Derived.Laws.BitsLemmas
import Derived.Laws.Bits64
import Derived.IntWalk
import Derived.Outline
import Derived.WalkSpells
import Derived.Test.YthflkhalipkdgaaGA
/- The sum of layer 1 as plain arithmetic of natural numbers: one step is linear, joins, turns and bursts of it. Nothing of the program stands here. -/
namespace Go.Proofs.Ythflkhalipkdgaa.Crc
set_option maxRecDepth 20000
set_option linter.unusedVariables false
set_option linter.unusedSimpArgs false

def poly : Nat := 3988292384
def ones : Nat := 4294967295
/-- one bit's step -/
def X (r : Nat) : Nat := (r / 2) ^^^ (if r % 2 = 1 then poly else 0)
def Xn : Nat → Nat → Nat
  | 0, r => r
  | n + 1, r => Xn n (X r)
def stepN (r c : Nat) : Nat := Xn 8 (r ^^^ c)
def run (r : Nat) : List Nat → Nat
  | [] => r
  | c :: l => run (stepN r c) l
def crc (l : List Nat) : Nat := run ones l ^^^ ones

theorem xor_lt {a b : Nat} (ha : a < 4294967296) (hb : b < 4294967296) : a ^^^ b < 4294967296 :=
  Nat.xor_lt_two_pow (n := 32) ha hb
theorem X_lt {r : Nat} (h : r < 4294967296) : X r < 4294967296 := by
  unfold X
  refine xor_lt (by omega) ?_
  split <;> simp [poly]
theorem Xn_lt : ∀ (n : Nat) {r : Nat}, r < 4294967296 → Xn n r < 4294967296
  | 0, _, h => h
  | n + 1, _, h => Xn_lt n (X_lt h)
theorem xor4 (a b c d : Nat) : (a ^^^ b) ^^^ (c ^^^ d) = (a ^^^ c) ^^^ (b ^^^ d) := by
  rw [Nat.xor_assoc, Nat.xor_assoc, ← Nat.xor_assoc b c d, Nat.xor_comm b c, Nat.xor_assoc c b d]
theorem xor_div2 (a b : Nat) : (a ^^^ b) / 2 = a / 2 ^^^ b / 2 := Nat.xor_div_two
theorem X_xor (a b : Nat) : X (a ^^^ b) = X a ^^^ X b := by
  unfold X
  rw [xor4, ← xor_div2]
  congr 1
  have h : (a ^^^ b) % 2 = 1 ↔ ¬ ((a % 2 = 1) ↔ (b % 2 = 1)) := by
    rw [Nat.xor_mod_two_eq_one]
  by_cases ha : a % 2 = 1 <;> by_cases hb : b % 2 = 1 <;> simp [h, ha, hb]
theorem Xn_xor : ∀ (n : Nat) (a b : Nat), Xn n (a ^^^ b) = Xn n a ^^^ Xn n b
  | 0, _, _ => rfl
  | n + 1, a, b => by simp only [Xn]; rw [X_xor, Xn_xor n]
theorem X_zero : X 0 = 0 := by simp [X]
theorem Xn_zero : ∀ n, Xn n 0 = 0
  | 0 => rfl
  | n + 1 => by simp only [Xn]; rw [X_zero, Xn_zero n]
theorem Xn_add : ∀ (m n r : Nat), Xn (m + n) r = Xn n (Xn m r)
  | 0, n, r => by simp [Xn]
  | m + 1, n, r => by rw [Nat.add_right_comm]; simp only [Xn]; exact Xn_add m n (X r)
theorem Xn_comm (m n r : Nat) : Xn m (Xn n r) = Xn n (Xn m r) := by rw [← Xn_add, ← Xn_add, Nat.add_comm]
theorem Xn_succ (n r : Nat) : Xn (n + 1) r = X (Xn n r) := by rw [Xn_add n 1]; rfl

theorem stepN_lt {r c : Nat} (h : r < 4294967296) (hc : c < 256) : stepN r c < 4294967296 := Xn_lt 8 (xor_lt h (by omega))
theorem run_lt : ∀ (l : List Nat) {r : Nat}, r < 4294967296 → (∀ c ∈ l, c < 256) → run r l < 4294967296
  | [], _, h, _ => h
  | c :: l, r, h, hl => run_lt l (stepN_lt h (hl c (by simp))) fun d hd => hl d (by simp [hd])
theorem crc_lt (l : List Nat) (hl : ∀ c ∈ l, c < 256) : crc l < 4294967296 := xor_lt (run_lt l (by decide) hl) (by decide)
theorem run_append : ∀ (a b : List Nat) (r : Nat), run r (a ++ b) = run (run r a) b
  | [], _, _ => rfl
  | c :: a, b, r => run_append a b (stepN r c)
/-- a turned register turns the end -/
theorem run_xor : ∀ (l : List Nat) (r d : Nat), run (r ^^^ d) l = run r l ^^^ Xn (8 * l.length) d
  | [], r, d => by simp [run, Xn]
  | c :: l, r, d => by
    simp only [run]
    have h : stepN (r ^^^ d) c = stepN r c ^^^ Xn 8 d := by
      unfold stepN
      rw [Nat.xor_assoc, Nat.xor_comm d, ← Nat.xor_assoc, Xn_xor]
    rw [h, run_xor l, ← Xn_add]
    congr 2
    simp; omega
/-- what is added behind -/
def more (sum : Nat) (l : List Nat) : Nat := run (sum ^^^ ones) l ^^^ ones
theorem crc_nil : crc [] = 0 := by decide
theorem xor_cancel (a b : Nat) : a ^^^ b ^^^ b = a := by rw [Nat.xor_assoc, Nat.xor_self, Nat.xor_zero]
theorem more_crc (a b : List Nat) : more (crc a) b = crc (a ++ b) := by
  unfold more crc
  rw [xor_cancel, run_append]
theorem more_zero (a : List Nat) : more 0 a = crc a := by unfold more crc; rw [Nat.zero_xor]
theorem crc_append (a b : List Nat) : crc (a ++ b) = Xn (8 * b.length) (crc a) ^^^ crc b := by
  have h : run ones (a ++ b) = run ones b ^^^ Xn (8 * b.length) (run ones a ^^^ ones) := by
    rw [run_append, ← run_xor, ← Nat.xor_assoc, Nat.xor_comm ones, Nat.xor_assoc, Nat.xor_self, Nat.xor_zero]
  unfold crc
  rw [h, Nat.xor_assoc, Nat.xor_comm, Nat.xor_assoc, Nat.xor_comm ones]

/-! ### three texts turned by one another -/
def zip3 : List Nat → List Nat → List Nat → List Nat
  | a :: x, b :: y, c :: z => (a ^^^ b ^^^ c) :: zip3 x y z
  | _, _, _ => []
theorem run_zip3 : ∀ (x y z : List Nat) (r s t : Nat), x.length = y.length → x.length = z.length →
    run (r ^^^ s ^^^ t) (zip3 x y z) = run r x ^^^ run s y ^^^ run t z
  | [], [], [], _, _, _, _, _ => rfl
  | a :: x, b :: y, c :: z, r, s, t, h1, h2 => by
    simp only [zip3, run]
    rw [← run_zip3 x y z _ _ _ (by simpa using h1) (by simpa using h2)]
    congr 1
    unfold stepN
    rw [← Xn_xor, ← Xn_xor]
    congr 1
    rw [xor4, xor4 r s]
theorem crc_zip3 (x y z : List Nat) (h1 : x.length = y.length) (h2 : x.length = z.length) :
    crc (zip3 x y z) = crc x ^^^ crc y ^^^ crc z := by
  unfold crc
  have h := run_zip3 x y z ones ones ones h1 h2
  rw [Nat.xor_self, Nat.zero_xor] at h
  rw [h, xor4 (run ones x) ones (run ones y) ones, Nat.xor_self, Nat.xor_zero, Nat.xor_assoc]

theorem zip3_snoc : ∀ (x y z : List Nat) (a b c : Nat), x.length = y.length → x.length = z.length → zip3 (x ++ [a]) (y ++ [b]) (z ++ [c]) = zip3 x y z ++ [a ^^^ b ^^^ c]
  | [], [], [], _, _, _, _, _ => rfl
  | a' :: x, b' :: y, c' :: z, a, b, c, h1, h2 => by
    simp only [List.cons_append, zip3]
    rw [zip3_snoc x y z a b c (by simpa using h1) (by simpa using h2)]
/-! ### bursts -/
theorem X_inj0 {r : Nat} (h : r < 4294967296) (hx : X r = 0) : r = 0 := by
  unfold X at hx
  split at hx
  · have : r / 2 = poly := by
      have := congrArg (· ^^^ poly) hx
      simpa [Nat.xor_assoc] using this
    simp only [poly] at this
    omega
  · simp at hx
    omega
theorem Xn_inj0 : ∀ (n : Nat) {r : Nat}, r < 4294967296 → Xn n r = 0 → r = 0
  | 0, _, _, h => h
  | n + 1, _, h, hx => X_inj0 h (Xn_inj0 n (X_lt h) hx)
theorem xor_eq_zero {a b : Nat} (h : a ^^^ b = 0) : a = b := by
  have := congrArg (· ^^^ b) h
  simpa [Nat.xor_assoc] using this
theorem step_diff (p q x y : Nat) : stepN p x ^^^ stepN q y = Xn 8 ((p ^^^ q) ^^^ (x ^^^ y)) := by
  unfold stepN
  rw [← Xn_xor, xor4]
theorem X_two (y : Nat) : X (2 * y) = y := by
  unfold X
  rw [if_neg (by omega), Nat.xor_zero]
  omega
theorem Xn_up (z : Nat) : Xn 8 (256 * z) = z := by
  have h : ∀ k, X (2 * k) = k := X_two
  rw [show 256 * z = 2 * (2 * (2 * (2 * (2 * (2 * (2 * (2 * z))))))) by omega]
  simp only [Xn, h]
theorem Xn_inj {n a b : Nat} (ha : a < 4294967296) (hb : b < 4294967296) (h : Xn n a = Xn n b) : a = b := by
  apply xor_eq_zero
  apply Xn_inj0 n (xor_lt ha hb)
  rw [Xn_xor, h, Nat.xor_self]
theorem chain (e1 e2 e3 e4 : Nat) (h1 : e1 < 256) (h2 : e2 < 256) (h3 : e3 < 256) (h4 : e4 < 256)
    (h : Xn 8 (Xn 8 (Xn 8 (Xn 8 e1 ^^^ e2) ^^^ e3) ^^^ e4) = 0) : e1 = 0 ∧ e2 = 0 ∧ e3 = 0 ∧ e4 = 0 := by
  have b1 : e1 < 4294967296 := by omega
  have d2 : Xn 8 e1 ^^^ e2 < 4294967296 := xor_lt (Xn_lt 8 b1) (by omega)
  have d3 : Xn 8 (Xn 8 e1 ^^^ e2) ^^^ e3 < 4294967296 := xor_lt (Xn_lt 8 d2) (by omega)
  have d4 : Xn 8 (Xn 8 (Xn 8 e1 ^^^ e2) ^^^ e3) ^^^ e4 < 4294967296 := xor_lt (Xn_lt 8 d3) (by omega)
  have k4 := xor_eq_zero (Xn_inj0 8 d4 h)
  rw [← Xn_up e4] at k4
  have k3 := Xn_inj d3 (by omega) k4
  have k3' : Xn 8 (Xn 8 e1 ^^^ e2) = 256 * e4 ^^^ e3 := by rw [← k3, xor_cancel]
  have g3 : 256 * e4 ^^^ e3 < 65536 := Nat.xor_lt_two_pow (n := 16) (by omega) (by omega)
  rw [← Xn_up (256 * e4 ^^^ e3)] at k3'
  have k2 := Xn_inj d2 (by omega) k3'
  have k2' : Xn 8 e1 = 256 * (256 * e4 ^^^ e3) ^^^ e2 := by rw [← k2, xor_cancel]
  have g2 : 256 * (256 * e4 ^^^ e3) ^^^ e2 < 16777216 := Nat.xor_lt_two_pow (n := 24) (by omega) (by omega)
  rw [← Xn_up (256 * (256 * e4 ^^^ e3) ^^^ e2)] at k2'
  have k1 := Xn_inj b1 (by omega) k2'
  have z2 : 256 * (256 * e4 ^^^ e3) ^^^ e2 = 0 := by omega
  have z1 := xor_eq_zero z2
  have z3 := xor_eq_zero (a := 256 * e4) (b := e3) (by omega)
  omega
/-- two texts alike but for four bytes side by side have one sum just if these are alike -/
theorem run_four (r a b c d a' b' c' d' : Nat)
    (ha : a < 256) (hb : b < 256) (hc : c < 256) (hd : d < 256) (ha' : a' < 256) (hb' : b' < 256) (hc' : c' < 256) (hd' : d' < 256)
    (h : run r [a, b, c, d] = run r [a', b', c', d']) : a = a' ∧ b = b' ∧ c = c' ∧ d = d' := by
  have l : ∀ {x y : Nat}, x < 256 → y < 256 → x ^^^ y < 256 := fun hx hy => Nat.xor_lt_two_pow (n := 8) hx hy
  have h0 : run r [a, b, c, d] ^^^ run r [a', b', c', d'] = 0 := by rw [h, Nat.xor_self]
  simp only [run] at h0
  rw [step_diff, step_diff, step_diff, step_diff, Nat.xor_self, Nat.zero_xor] at h0
  obtain ⟨z1, z2, z3, z4⟩ := chain _ _ _ _ (l ha ha') (l hb hb') (l hc hc') (l hd hd') h0
  exact ⟨xor_eq_zero z1, xor_eq_zero z2, xor_eq_zero z3, xor_eq_zero z4⟩
theorem run_inj {l : List Nat} {r s : Nat} (hr : r < 4294967296) (hs : s < 4294967296) (h : run r l = run s l) : r = s := by
  have e : s = r ^^^ (r ^^^ s) := by rw [← Nat.xor_assoc, Nat.xor_self, Nat.zero_xor]
  rw [e, run_xor] at h
  have h' := congrArg (run r l ^^^ ·) h
  simp only [← Nat.xor_assoc, Nat.xor_self, Nat.zero_xor] at h'
  exact xor_eq_zero (Xn_inj0 _ (xor_lt hr hs) h'.symm)
/-- a burst within four bytes is told -/
theorem crc_burst (p q : List Nat) (a b c d a' b' c' d' : Nat) (hp : ∀ c ∈ p, c < 256)
    (ha : a < 256) (hb : b < 256) (hc : c < 256) (hd : d < 256) (ha' : a' < 256) (hb' : b' < 256) (hc' : c' < 256) (hd' : d' < 256)
    (h : crc (p ++ [a, b, c, d] ++ q) = crc (p ++ [a', b', c', d'] ++ q)) : a = a' ∧ b = b' ∧ c = c' ∧ d = d' := by
  have h1 : run ones (p ++ [a, b, c, d] ++ q) = run ones (p ++ [a', b', c', d'] ++ q) := by
    have := congrArg (· ^^^ ones) h
    simpa only [crc, xor_cancel] using this
  have hr : run ones p < 4294967296 := run_lt p (by decide) hp
  have lt4 : ∀ x y z t : Nat, x < 256 → y < 256 → z < 256 → t < 256 → run (run ones p) [x, y, z, t] < 4294967296 := by
    intro x y z t hx hy hz ht
    refine run_lt _ hr ?_
    intro c hc
    simp only [List.mem_cons, List.not_mem_nil, or_false] at hc
    rcases hc with rfl | rfl | rfl | rfl <;> assumption
  rw [run_append, run_append, run_append, run_append] at h1
  exact run_four _ _ _ _ _ _ _ _ _ ha hb hc hd ha' hb' hc' hd' (run_inj (lt4 _ _ _ _ ha hb hc hd) (lt4 _ _ _ _ ha' hb' hc' hd') h1)

/-! ### products: the highest bit is the number 1 -/
def times : Nat → Nat → Nat → Nat → Nat
  | 0, _, _, out => out
  | n + 1, a, b, out => times n a (X b) (if a / 2 ^ n % 2 = 1 then out ^^^ b else out)
theorem times_X : ∀ (n a b out : Nat), times n a (X b) (X out) = X (times n a b out)
  | 0, _, _, _ => rfl
  | n + 1, a, b, out => by
    simp only [times]
    rw [← times_X n]
    congr 1
    split
    · rw [X_xor]
    · rfl
theorem times_Xn : ∀ (m n a b out : Nat), times n a (Xn m b) (Xn m out) = Xn m (times n a b out)
  | 0, _, _, _, _ => rfl
  | m + 1, n, a, b, out => by
    simp only [Xn]
    rw [times_Xn m, times_X]
theorem X_half (n : Nat) : X (2 ^ (n + 1)) = 2 ^ n := by
  rw [Nat.pow_succ, Nat.mul_comm]; exact X_two _
theorem xor_high (n q : Nat) : 2 ^ (n + 1) * q ^^^ 2 ^ n = 2 ^ (n + 1) * q + 2 ^ n := by
  have e : 2 * q ^^^ 1 = 2 * q + 1 := by
    have h1 : (2 * q ^^^ 1) / 2 = q := by rw [Nat.xor_div_two]; simp
    have h2 : (2 * q ^^^ 1) % 2 = 1 := by rw [Nat.xor_mod_two_eq_one]; omega
    omega
  have h := Nat.shiftLeft_xor_distrib (a := 2 * q) (b := 1) (i := n)
  rw [e] at h
  simp only [Nat.shiftLeft_eq] at h
  rw [show 2 ^ (n + 1) * q = 2 * q * 2 ^ n by rw [Nat.pow_succ, Nat.mul_comm 2 q, Nat.mul_assoc q, Nat.mul_comm, Nat.mul_comm 2], ]
  rw [Nat.one_mul] at h
  rw [← h, Nat.add_mul, Nat.one_mul]
/-- times 1 -/
theorem times_one : ∀ (n a b out : Nat), (1 ≤ n → b = 2 ^ (n - 1)) → out % 2 ^ n = 0 → times n a b out = out + a % 2 ^ n
  | 0, a, _, out, _, _ => by simp [times, Nat.mod_one]
  | n + 1, a, b, out, hb, h => by
    obtain rfl := hb (by omega)
    obtain ⟨q, rfl⟩ : ∃ q, out = 2 ^ (n + 1) * q := ⟨out / 2 ^ (n + 1), by rw [Nat.mul_div_cancel' (Nat.dvd_of_mod_eq_zero h)]⟩
    have hx := xor_high n q
    have hp := Nat.pow_succ (n := 2) (m := n)
    simp only [times]
    rw [show n + 1 - 1 = n by omega, hx, Nat.mod_pow_succ]
    rw [times_one n]
    · rcases Nat.mod_two_eq_zero_or_one (a / 2 ^ n) with hm | hm
      · rw [if_neg (by omega), hm]; omega
      · rw [if_pos hm, hm]; omega
    · intro hn
      obtain ⟨m, rfl⟩ : ∃ m, n = m + 1 := ⟨n - 1, by omega⟩
      rw [X_half]; rfl
    · rw [hp]
      split
      · rw [show 2 ^ n * 2 * q + 2 ^ n = 2 ^ n * (2 * q + 1) by rw [Nat.mul_add, Nat.mul_assoc, Nat.mul_one], Nat.mul_mod_right]
      · rw [Nat.mul_assoc, Nat.mul_mod_right]
/-- the product, as it is reckoned -/
def tim (a b : Nat) : Nat := times 32 a b 0
def unit : Nat := 2147483648
theorem tim_unit {a : Nat} (h : a < 4294967296) : tim a unit = a := by
  have := times_one 32 a unit 0 (by intro _; rfl) (by simp)
  unfold tim
  rw [this]
  omega
theorem tim_Xn {a : Nat} (m : Nat) (h : a < 4294967296) : tim a (Xn m unit) = Xn m a := by
  have := times_Xn m 32 a unit 0
  rw [Xn_zero] at this
  unfold tim
  rw [this]
  exact congrArg (Xn m) (tim_unit h)
theorem times_lt : ∀ (n a b out : Nat), b < 4294967296 → out < 4294967296 → times n a b out < 4294967296
  | 0, _, _, _, _, h => h
  | n + 1, a, b, out, hb, h => by
    simp only [times]
    refine times_lt n _ _ _ (X_lt hb) ?_
    split
    · exact xor_lt h hb
    · exact h
theorem unit_lt : unit < 4294967296 := by decide
/-- the power of so many zero bytes, as it is reckoned: out · base^n -/
def pow : Nat → Nat → Nat → Nat → Nat
  | 0, _, out, _ => out
  | k + 1, n, out, base => if n = 0 then out else pow k (n / 2) (if n % 2 = 1 then tim out base else out) (tim base base)
theorem pow_eq : ∀ (k n i j : Nat), n < 2 ^ k → pow k n (Xn i unit) (Xn j unit) = Xn (i + j * n) unit
  | 0, n, i, j, h => by
    have : n = 0 := by simp at h; exact h
    simp [pow, this]
  | k + 1, n, i, j, h => by
    simp only [pow]
    by_cases hn : n = 0
    · simp [hn]
    · rw [if_neg hn]
      have hb : tim (Xn j unit) (Xn j unit) = Xn (j + j) unit := by
        rw [tim_Xn j (Xn_lt j unit_lt), ← Xn_add]
      rw [hb]
      have hk : n / 2 < 2 ^ k := by rw [Nat.pow_succ] at h; omega
      by_cases ho : n % 2 = 1
      · rw [if_pos ho, tim_Xn j (Xn_lt i unit_lt), ← Xn_add, pow_eq k _ _ _ hk]
        congr 1
        have : n = 2 * (n / 2) + 1 := by omega
        rw [← Nat.two_mul j, Nat.mul_comm 2 j, Nat.mul_assoc, Nat.add_assoc]
        congr 1
        have e : j + j * (2 * (n / 2)) = j * (2 * (n / 2) + 1) := by rw [Nat.mul_add, Nat.mul_one, Nat.add_comm]
        rw [e, ← this]
      · rw [if_neg ho, pow_eq k _ _ _ hk]
        congr 1
        rw [← Nat.two_mul j, Nat.mul_comm 2 j, Nat.mul_assoc]
        congr 2
        omega
/-- the sum of both out of their sums -/
theorem join (a b : List Nat) (k : Nat) (ha : ∀ c ∈ a, c < 256) (h : b.length < 2 ^ k) :
    tim (crc a) (pow k b.length unit (Xn 8 unit)) ^^^ crc b = crc (a ++ b) := by
  have := pow_eq k b.length 0 8 h
  rw [show Xn 0 unit = unit from rfl] at this
  rw [this, tim_Xn _ (crc_lt a ha), crc_append, Nat.zero_add]
theorem unit8 : Xn 8 unit = 8388608 := by decide
end Go.Proofs.Ythflkhalipkdgaa.Crc

/- Contracts of the functions of layer 1 and of its reference: they come to the plain sums of CrcMath. -/
namespace Go.Proofs.Ythflkhalipkdgaa.CrcF
set_option maxRecDepth 20000
set_option linter.unusedVariables false
set_option linter.unusedSimpArgs false
open Go.RowKit Go.Proofs.Ythflkhalipkdgaa Go.Proofs.Ythflkhalipkdgaa.Mem

theorem ret_int {k : IntKind} {a b : Int} (h : a = b) : Ending.returned (.int k a) = .returned (.int k b) := by rw [h]
theorem ret_bool {a b : Bool} (h : a = b) : Ending.returned (.bool a) = .returned (.bool b) := by rw [h]
theorem xorC {a b : Nat} (h : a < 4294967296) (hb : b < 4294967296) : bits .xor .u32 (a : Int) (b : Int) = ((a ^^^ b : Nat) : Int) := u32_xor_nat a b h hb
theorem and1 {a : Nat} (h : a < 4294967296) : bits .and .u32 (a : Int) 1 = ((a % 2 : Nat) : Int) := by
  have := u32_and_nat a 1 h (by decide)
  rw [Nat.and_one_is_mod] at this
  exact this
theorem X_odd {r : Nat} (h : r < 4294967296) (ho : r % 2 = 1) : bits .xor .u32 ((r : Int) / 2) 3988292384 = ((Crc.X r : Nat) : Int) := by
  unfold Crc.X
  rw [if_pos ho, show (r : Int) / 2 = ((r / 2 : Nat) : Int) by omega]
  exact xorC (by omega) (b := 3988292384) (by decide)
theorem X_even {r : Nat} (ho : ¬ r % 2 = 1) : (r : Int) / 2 = ((Crc.X r : Nat) : Int) := by
  unfold Crc.X
  rw [if_neg ho, show (r : Int) / 2 = ((r / 2 : Nat) : Int) by omega, Nat.xor_zero]

theorem step (r c : Nat) (hr : r < 4294967296) (hc : c < 256) (w : World) :
    Calls Try.prog 100 #[.int .u32 r, .int .u8 c] w fun e w' => e = .returned (.int .u32 ((Crc.stepN r c : Nat) : Int)) ∧ w = w' := by
  have hx : r ^^^ c < 4294967296 := Crc.xor_lt hr (by omega)
  have H0 := Lib.hid (show bits .xor .u32 (r : Int) (c : Int) = ((r ^^^ c : Nat) : Int) from xorC hr (by omega))
  go_enter Try.func100, Try.ntmps100
  go_wp2
  go_loop [0, 10] (fun t i => ∃ k : Nat, k ≤ 8 ∧ i = .int .i64 k ∧ t = .int .u32 ((Crc.Xn k (r ^^^ c) : Nat) : Int)) (fun _ i => 8 - (intOf i).toNat)
  case atStart => exact ⟨0, Nat.zero_le _, rfl, by rw [H0.out]; rfl⟩
  case round =>
    obtain ⟨k, hk, rfl, rfl⟩ := hrel
    have hs := Lib.hid (Crc.Xn_succ k (r ^^^ c))
    have hlt := Crc.Xn_lt k hx
    generalize hg : Crc.Xn k (r ^^^ c) = x at *
    have Hg := Lib.hid hg
    clear hg
    by_cases hk8 : k < 8
    · by_cases ho : x % 2 = 1
      · have ht : (bits .and .u32 (x : Int) 1 == 1) = true := by rw [and1 hlt, ho]; rfl
        have HX := Lib.hid (X_odd hlt ho)
        clear ho
        go_wp2
        go_round
        case rel => exact ⟨k + 1, by omega, by go_num, by rw [hs.out, HX.out]⟩
        case measure => simp [intOf]; omega
      · have ht : (bits .and .u32 (x : Int) 1 == 1) = false := by rw [and1 hlt, beq_eq_false_iff_ne]; omega
        have HX := Lib.hid (X_even ho)
        clear ho
        go_wp2
        go_round
        case rel => exact ⟨k + 1, by omega, by go_num, by rw [hs.out, HX.out]⟩
        case measure => simp [intOf]; omega
    · obtain rfl : k = 8 := by omega
      go_wp2
      go_ret
      exact ⟨ret_int (by rw [← Hg.out]; rfl), rfl⟩

/-- the bytes of a text, as numbers -/
def nums (s : ByteArray) : List Nat := s.data.toList.map UInt8.toNat
theorem nums_lt (s : ByteArray) : ∀ c ∈ nums s, c < 256 := by
  intro c hc
  obtain ⟨x, _, rfl⟩ := List.mem_map.mp hc
  exact x.toNat_lt
theorem nums_length (s : ByteArray) : (nums s).length = s.size := by simp [nums]
theorem nums_append (s t : ByteArray) : nums (s ++ t) = nums s ++ nums t := by simp [nums, ByteArray.data_append]
theorem nums_take (s : ByteArray) (k : Nat) (h : k < s.size) : (nums s).take (k + 1) = (nums s).take k ++ [s[k].toNat] := by
  rw [List.take_succ_eq_append_getElem (by rw [nums_length]; exact h)]
  simp [nums]
  rfl

theorem more (sum : Nat) (s : ByteArray) (hr : sum < 4294967296) (hs : s.size ≤ 140737488351232) (w : World) :
    Calls Try.prog 99 #[.int .u32 sum, .string s] w fun e w' => e = .returned (.int .u32 ((Crc.more sum (nums s) : Nat) : Int)) ∧ w = w' := by
  have hx : sum ^^^ Crc.ones < 4294967296 := Crc.xor_lt hr (by decide)
  have H0 := Lib.hid (show bits .xor .u32 (sum : Int) 4294967295 = ((sum ^^^ Crc.ones : Nat) : Int) from xorC hr (b := Crc.ones) (by decide))
  go_enter Try.func99, Try.ntmps99
  go_wp2
  go_loop [5, 11] (fun t i => ∃ k : Nat, k ≤ s.size ∧ i = .int .i64 k ∧ t = .int .u32 ((Crc.run (sum ^^^ Crc.ones) ((nums s).take k) : Nat) : Int)) (fun _ i => s.size - (intOf i).toNat)
  case atStart => exact ⟨0, Nat.zero_le _, rfl, by rw [H0.out]; rfl⟩
  case round =>
    obtain ⟨k, hk, rfl, rfl⟩ := hrel
    have hlt := Crc.run_lt ((nums s).take k) hx (fun c hc => nums_lt s c (List.mem_of_mem_take hc))
    by_cases hks : k < s.size
    · have hs' := Lib.hid (show Crc.run (sum ^^^ Crc.ones) ((nums s).take (k + 1)) = Crc.stepN (Crc.run (sum ^^^ Crc.ones) ((nums s).take k)) s[k].toNat by
        rw [nums_take s k hks, Crc.run_append]; rfl)
      have hb := s[k].toNat_lt
      go_wp2_with (go_at_call 100; refine (step _ _ hlt hb _).mono ?_; rintro e w' ⟨rfl, rfl⟩)
      go_round
      case rel => exact ⟨k + 1, by omega, by go_num, by rw [hs'.out]⟩
      case measure => simp [intOf]; omega
    · obtain rfl : k = s.size := by omega
      have H1 := Lib.hid (show bits .xor .u32 ((Crc.run (sum ^^^ Crc.ones) ((nums s).take s.size) : Nat) : Int) 4294967295 = ((Crc.more sum (nums s) : Nat) : Int) by
        rw [List.take_of_length_le (by rw [nums_length]; omega)] at hlt ⊢
        exact xorC hlt (b := Crc.ones) (by decide))
      go_wp2
      go_ret
      exact ⟨ret_int H1.out, rfl⟩

theorem power_lt : ∀ (j n out base : Nat), out < 4294967296 → base < 4294967296 → Crc.pow j n out base < 4294967296
  | 0, _, _, _, h, _ => h
  | j + 1, n, out, base, h, hb => by
    simp only [Crc.pow]
    split
    · exact h
    · refine power_lt j _ _ _ ?_ (Crc.times_lt 32 _ _ 0 hb (by decide))
      split
      · exact Crc.times_lt 32 _ _ 0 hb (by decide)
      · exact h
theorem tim_lt {a b : Nat} (hb : b < 4294967296) : Crc.tim a b < 4294967296 := Crc.times_lt 32 a b 0 hb (by decide)
end Go.Proofs.Ythflkhalipkdgaa.CrcF

/- Contracts of crc.Of and crc.Is, of the reference, and of what is fixed by number. -/
namespace Go.Proofs.Ythflkhalipkdgaa.CrcF
set_option maxRecDepth 20000
set_option linter.unusedVariables false
set_option linter.unusedSimpArgs false
open Go.RowKit Go.Proofs.Ythflkhalipkdgaa Go.Proofs.Ythflkhalipkdgaa.Mem

/-- all bytes of many texts -/
def flat : List ByteArray → List Nat
  | [] => []
  | s :: l => nums s ++ flat l
theorem flat_lt : ∀ (l : List ByteArray), ∀ c ∈ flat l, c < 256
  | [], c, h => by simp [flat] at h
  | s :: l, c, h => by
    simp only [flat, List.mem_append] at h
    exact h.elim (nums_lt s c) (flat_lt l c)
theorem flat_append : ∀ (a b : List ByteArray), flat (a ++ b) = flat a ++ flat b
  | [], _ => rfl
  | s :: a, b => by simp [flat, flat_append a b]
theorem flat_take (l : List ByteArray) (k : Nat) (h : k < l.length) : flat (l.take (k + 1)) = flat (l.take k) ++ nums l[k] := by
  rw [List.take_succ_eq_append_getElem h, flat_append]
  simp [flat]

/-- a slice at x reads as these texts -/
def StrsAt (w : World) (x : Addr) (l : List ByteArray) : Prop := ∀ (i : Nat) (h : i < l.length), w.cell? (x.add i) = some (.string l[i])

theorem of_any (x : Addr) (l : List ByteArray) (c : Nat) (hl : l.length ≤ 140737488351232) (hs : ∀ s ∈ l, s.size ≤ 140737488351232) (w : World) (h : StrsAt w x l) :
    Calls Try.prog 86 #[.slice (some x) l.length c] w fun e w' => e = .returned (.int .u32 ((Crc.crc (flat l) : Nat) : Int)) ∧ w = w' := by
  have H := Lib.hid h
  clear h
  have Hs := Lib.hid hs
  clear hs
  go_enter Try.func86, Try.ntmps86
  go_wp2
  go_loop [3, 8] (fun t i => ∃ k : Nat, k ≤ l.length ∧ i = .int .i64 k ∧ t = .int .u32 ((Crc.crc (flat (l.take k)) : Nat) : Int)) (fun _ i => l.length - (intOf i).toNat)
  case atStart => exact ⟨0, Nat.zero_le _, rfl, by simp [flat, Crc.crc_nil]⟩
  case round =>
    obtain ⟨k, hk, rfl, rfl⟩ := hrel
    by_cases hlt : k < l.length
    · have hc := H.out k hlt
      have hsz := Hs.out _ (List.getElem_mem hlt)
      have hsum := Crc.crc_lt (flat (l.take k)) (flat_lt _)
      have HN := Lib.hid (show Crc.more (Crc.crc (flat (l.take k))) (nums l[k]) = Crc.crc (flat (l.take (k + 1))) by rw [Crc.more_crc, flat_take l k hlt])
      generalize l[k] = s at *
      go_wp2_with (go_at_call 99; refine (more _ _ hsum hsz _).mono ?_; rintro e w' ⟨rfl, rfl⟩)
      go_round
      case rel => exact ⟨k + 1, by omega, by go_num, by rw [HN.out]⟩
      case measure => simp [intOf]; omega
    · obtain rfl : k = l.length := by omega
      go_wp2
      go_ret
      exact ⟨ret_int (by first | rfl | rw [List.take_length]), rfl⟩
theorem of_nil (c : Nat) (w : World) :
    Calls Try.prog 86 #[.slice none 0 c] w fun e w' => e = .returned (.int .u32 0) ∧ w = w' := by
  go_enter Try.func86, Try.ntmps86
  go_wp2
  go_loop [3, 8] (fun t i => i = .int .i64 0 ∧ t = .int .u32 0) (fun _ i => (intOf i).toNat)
  case atStart => exact ⟨rfl, rfl⟩
  case round =>
    obtain ⟨rfl, rfl⟩ := hrel
    go_wp2
    go_ret
    exact ⟨rfl, rfl⟩
theorem of_reads (v : Value) (l : List ByteArray) (hl : l.length ≤ 140737488351232) (hs : ∀ s ∈ l, s.size ≤ 140737488351232) (w : World) (h : Reads w v (l.map .string)) :
    Calls Try.prog 86 #[v] w fun e w' => e = .returned (.int .u32 ((Crc.crc (flat l) : Nat) : Int)) ∧ w = w' := by
  rcases h with ⟨rfl, hn⟩ | ⟨x, c, rfl, hc⟩
  · obtain rfl : l = [] := by simpa using hn
    exact of_nil 0 w
  · rw [List.length_map]
    exact of_any x l c hl hs w fun i hi => by rw [hc i (by simpa using hi)]; simp
/-- of one text, made at the call -/
theorem of_one (s : ByteArray) (x : Addr) (c : Nat) (hs : s.size ≤ 140737488351232) (w : World) (h : w.cell? (x.add 0) = some (.string s)) :
    Calls Try.prog 86 #[.slice (some x) 1 c] w fun e w' => e = .returned (.int .u32 ((Crc.crc (nums s) : Nat) : Int)) ∧ w = w' := by
  have h1 := of_any x [s] c (by simp) (by simpa using hs) w (by
    intro i hi
    obtain rfl : i = 0 := by simpa using hi
    exact h)
  simpa [flat] using h1
theorem of_blk (s : ByteArray) (n : Nat) (w : World) (hb : Blk w n #[.string s] 9) (hs : s.size ≤ 140737488351232) :
    Calls Try.prog 86 #[.slice (some ⟨n, 0, none⟩) 1 1] w fun e w' => e = .returned (.int .u32 ((Crc.crc (nums s) : Nat) : Int)) ∧ w = w' :=
  of_one s ⟨n, 0, none⟩ 1 hs _ (hb.cell 0 _ rfl)
theorem of_new1 (s : ByteArray) (hs : s.size ≤ 140737488351232) (n : Nat) (w : World) (hn : n = w.heap.size) :
    Calls Try.prog 86 #[.slice (some ⟨n, 0, none⟩) 1 1] (w.alloc (.cells #[.string s] 9)) fun e w' => e = .returned (.int .u32 ((Crc.crc (nums s) : Nat) : Int)) ∧ w.alloc (.cells #[.string s] 9) = w' := by
  subst hn
  exact of_one s ⟨w.heap.size, 0, none⟩ 1 hs _ ((blk_new w _ _).cell 0 _ rfl)
theorem of_new3 (s t u : ByteArray) (hs : s.size ≤ 140737488351232) (ht : t.size ≤ 140737488351232) (hu : u.size ≤ 140737488351232) (n : Nat) (w : World) (hn : n = w.heap.size) :
    Calls Try.prog 86 #[.slice (some ⟨n, 0, none⟩) 3 3] (w.alloc (.cells #[.string s, .string t, .string u] 9)) fun e w' => e = .returned (.int .u32 ((Crc.crc (nums s ++ nums t ++ nums u) : Nat) : Int)) ∧ w.alloc (.cells #[.string s, .string t, .string u] 9) = w' := by
  subst hn
  have h := of_any ⟨w.heap.size, 0, none⟩ [s, t, u] 3 (by simp) (by simp; exact ⟨hs, ht, hu⟩) (w.alloc (.cells #[.string s, .string t, .string u] 9)) (by
    intro i hi
    simp at hi
    have hb := blk_new w #[.string s, .string t, .string u] 9
    rcases i with _ | _ | _ | i
    · exact hb.cell 0 _ rfl
    · exact hb.cell 1 _ rfl
    · exact hb.cell 2 _ rfl
    · omega)
  simpa [flat] using h
end Go.Proofs.Ythflkhalipkdgaa.CrcF
