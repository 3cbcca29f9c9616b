/- The sum of layer 1 as plain arithmetic of natural numbers: one step is linear, joins, turns and bursts of it. Nothing of the program stands here. -/
import Derived.Laws.BitsAllLaws
namespace Go.Proofs.Ythflkhalipkdgaa.Crc
set_option maxRecDepth 20000
set_option linter.unusedVariables false
set_option linter.unusedSimpArgs false

def poly : Nat := 3988292384
def ones : Nat := 4294967295
/-- one bit's step -/
def X (r : Nat) : Nat := (r / 2) ^^^ (if r % 2 = 1 then poly else 0)
def Xn : Nat → Nat → Nat
  | 0, r => r
  | n + 1, r => Xn n (X r)
def stepN (r c : Nat) : Nat := Xn 8 (r ^^^ c)
def run (r : Nat) : List Nat → Nat
  | [] => r
  | c :: l => run (stepN r c) l
def crc (l : List Nat) : Nat := run ones l ^^^ ones

theorem xor_lt {a b : Nat} (ha : a < 4294967296) (hb : b < 4294967296) : a ^^^ b < 4294967296 :=
  Nat.xor_lt_two_pow (n := 32) ha hb
theorem X_lt {r : Nat} (h : r < 4294967296) : X r < 4294967296 := by
  unfold X
  refine xor_lt (by omega) ?_
  split <;> simp [poly]
theorem Xn_lt : ∀ (n : Nat) {r : Nat}, r < 4294967296 → Xn n r < 4294967296
  | 0, _, h => h
  | n + 1, _, h => Xn_lt n (X_lt h)
theorem xor4 (a b c d : Nat) : (a ^^^ b) ^^^ (c ^^^ d) = (a ^^^ c) ^^^ (b ^^^ d) := by
  rw [Nat.xor_assoc, Nat.xor_assoc, ← Nat.xor_assoc b c d, Nat.xor_comm b c, Nat.xor_assoc c b d]
theorem xor_div2 (a b : Nat) : (a ^^^ b) / 2 = a / 2 ^^^ b / 2 := Nat.xor_div_two
theorem X_xor (a b : Nat) : X (a ^^^ b) = X a ^^^ X b := by
  unfold X
  rw [xor4, ← xor_div2]
  congr 1
  have h : (a ^^^ b) % 2 = 1 ↔ ¬ ((a % 2 = 1) ↔ (b % 2 = 1)) := by
    rw [Nat.xor_mod_two_eq_one]
  by_cases ha : a % 2 = 1 <;> by_cases hb : b % 2 = 1 <;> simp [h, ha, hb]
theorem Xn_xor : ∀ (n : Nat) (a b : Nat), Xn n (a ^^^ b) = Xn n a ^^^ Xn n b
  | 0, _, _ => rfl
  | n + 1, a, b => by simp only [Xn]; rw [X_xor, Xn_xor n]
theorem X_zero : X 0 = 0 := by simp [X]
theorem Xn_zero : ∀ n, Xn n 0 = 0
  | 0 => rfl
  | n + 1 => by simp only [Xn]; rw [X_zero, Xn_zero n]
theorem Xn_add : ∀ (m n r : Nat), Xn (m + n) r = Xn n (Xn m r)
  | 0, n, r => by simp [Xn]
  | m + 1, n, r => by rw [Nat.add_right_comm]; simp only [Xn]; exact Xn_add m n (X r)
theorem Xn_comm (m n r : Nat) : Xn m (Xn n r) = Xn n (Xn m r) := by rw [← Xn_add, ← Xn_add, Nat.add_comm]
theorem Xn_succ (n r : Nat) : Xn (n + 1) r = X (Xn n r) := by rw [Xn_add n 1]; rfl

theorem stepN_lt {r c : Nat} (h : r < 4294967296) (hc : c < 256) : stepN r c < 4294967296 := Xn_lt 8 (xor_lt h (by omega))
theorem run_lt : ∀ (l : List Nat) {r : Nat}, r < 4294967296 → (∀ c ∈ l, c < 256) → run r l < 4294967296
  | [], _, h, _ => h
  | c :: l, r, h, hl => run_lt l (stepN_lt h (hl c (by simp))) fun d hd => hl d (by simp [hd])
theorem crc_lt (l : List Nat) (hl : ∀ c ∈ l, c < 256) : crc l < 4294967296 := xor_lt (run_lt l (by decide) hl) (by decide)
theorem run_append : ∀ (a b : List Nat) (r : Nat), run r (a ++ b) = run (run r a) b
  | [], _, _ => rfl
  | c :: a, b, r => run_append a b (stepN r c)
/-- a turned register turns the end -/
theorem run_xor : ∀ (l : List Nat) (r d : Nat), run (r ^^^ d) l = run r l ^^^ Xn (8 * l.length) d
  | [], r, d => by simp [run, Xn]
  | c :: l, r, d => by
    simp only [run]
    have h : stepN (r ^^^ d) c = stepN r c ^^^ Xn 8 d := by
      unfold stepN
      rw [Nat.xor_assoc, Nat.xor_comm d, ← Nat.xor_assoc, Xn_xor]
    rw [h, run_xor l, ← Xn_add]
    congr 2
    simp; omega
/-- what is added behind -/
def more (sum : Nat) (l : List Nat) : Nat := run (sum ^^^ ones) l ^^^ ones
theorem crc_nil : crc [] = 0 := by decide
theorem xor_cancel (a b : Nat) : a ^^^ b ^^^ b = a := by rw [Nat.xor_assoc, Nat.xor_self, Nat.xor_zero]
theorem more_crc (a b : List Nat) : more (crc a) b = crc (a ++ b) := by
  unfold more crc
  rw [xor_cancel, run_append]
theorem more_zero (a : List Nat) : more 0 a = crc a := by unfold more crc; rw [Nat.zero_xor]
theorem crc_append (a b : List Nat) : crc (a ++ b) = Xn (8 * b.length) (crc a) ^^^ crc b := by
  have h : run ones (a ++ b) = run ones b ^^^ Xn (8 * b.length) (run ones a ^^^ ones) := by
    rw [run_append, ← run_xor, ← Nat.xor_assoc, Nat.xor_comm ones, Nat.xor_assoc, Nat.xor_self, Nat.xor_zero]
  unfold crc
  rw [h, Nat.xor_assoc, Nat.xor_comm, Nat.xor_assoc, Nat.xor_comm ones]

/-! ### three texts turned by one another -/
def zip3 : List Nat → List Nat → List Nat → List Nat
  | a :: x, b :: y, c :: z => (a ^^^ b ^^^ c) :: zip3 x y z
  | _, _, _ => []
theorem run_zip3 : ∀ (x y z : List Nat) (r s t : Nat), x.length = y.length → x.length = z.length →
    run (r ^^^ s ^^^ t) (zip3 x y z) = run r x ^^^ run s y ^^^ run t z
  | [], [], [], _, _, _, _, _ => rfl
  | a :: x, b :: y, c :: z, r, s, t, h1, h2 => by
    simp only [zip3, run]
    rw [← run_zip3 x y z _ _ _ (by simpa using h1) (by simpa using h2)]
    congr 1
    unfold stepN
    rw [← Xn_xor, ← Xn_xor]
    congr 1
    rw [xor4, xor4 r s]
theorem crc_zip3 (x y z : List Nat) (h1 : x.length = y.length) (h2 : x.length = z.length) :
    crc (zip3 x y z) = crc x ^^^ crc y ^^^ crc z := by
  unfold crc
  have h := run_zip3 x y z ones ones ones h1 h2
  rw [Nat.xor_self, Nat.zero_xor] at h
  rw [h, xor4 (run ones x) ones (run ones y) ones, Nat.xor_self, Nat.xor_zero, Nat.xor_assoc]

theorem zip3_snoc : ∀ (x y z : List Nat) (a b c : Nat), x.length = y.length → x.length = z.length → zip3 (x ++ [a]) (y ++ [b]) (z ++ [c]) = zip3 x y z ++ [a ^^^ b ^^^ c]
  | [], [], [], _, _, _, _, _ => rfl
  | a' :: x, b' :: y, c' :: z, a, b, c, h1, h2 => by
    simp only [List.cons_append, zip3]
    rw [zip3_snoc x y z a b c (by simpa using h1) (by simpa using h2)]
/-! ### bursts -/
theorem X_inj0 {r : Nat} (h : r < 4294967296) (hx : X r = 0) : r = 0 := by
  unfold X at hx
  split at hx
  · have : r / 2 = poly := by
      have := congrArg (· ^^^ poly) hx
      simpa [Nat.xor_assoc] using this
    simp only [poly] at this
    omega
  · simp at hx
    omega
theorem Xn_inj0 : ∀ (n : Nat) {r : Nat}, r < 4294967296 → Xn n r = 0 → r = 0
  | 0, _, _, h => h
  | n + 1, _, h, hx => X_inj0 h (Xn_inj0 n (X_lt h) hx)
theorem xor_eq_zero {a b : Nat} (h : a ^^^ b = 0) : a = b := by
  have := congrArg (· ^^^ b) h
  simpa [Nat.xor_assoc] using this
theorem step_diff (p q x y : Nat) : stepN p x ^^^ stepN q y = Xn 8 ((p ^^^ q) ^^^ (x ^^^ y)) := by
  unfold stepN
  rw [← Xn_xor, xor4]
theorem X_two (y : Nat) : X (2 * y) = y := by
  unfold X
  rw [if_neg (by omega), Nat.xor_zero]
  omega
theorem Xn_up (z : Nat) : Xn 8 (256 * z) = z := by
  have h : ∀ k, X (2 * k) = k := X_two
  rw [show 256 * z = 2 * (2 * (2 * (2 * (2 * (2 * (2 * (2 * z))))))) by omega]
  simp only [Xn, h]
theorem Xn_inj {n a b : Nat} (ha : a < 4294967296) (hb : b < 4294967296) (h : Xn n a = Xn n b) : a = b := by
  apply xor_eq_zero
  apply Xn_inj0 n (xor_lt ha hb)
  rw [Xn_xor, h, Nat.xor_self]
theorem chain (e1 e2 e3 e4 : Nat) (h1 : e1 < 256) (h2 : e2 < 256) (h3 : e3 < 256) (h4 : e4 < 256)
    (h : Xn 8 (Xn 8 (Xn 8 (Xn 8 e1 ^^^ e2) ^^^ e3) ^^^ e4) = 0) : e1 = 0 ∧ e2 = 0 ∧ e3 = 0 ∧ e4 = 0 := by
  have b1 : e1 < 4294967296 := by omega
  have d2 : Xn 8 e1 ^^^ e2 < 4294967296 := xor_lt (Xn_lt 8 b1) (by omega)
  have d3 : Xn 8 (Xn 8 e1 ^^^ e2) ^^^ e3 < 4294967296 := xor_lt (Xn_lt 8 d2) (by omega)
  have d4 : Xn 8 (Xn 8 (Xn 8 e1 ^^^ e2) ^^^ e3) ^^^ e4 < 4294967296 := xor_lt (Xn_lt 8 d3) (by omega)
  have k4 := xor_eq_zero (Xn_inj0 8 d4 h)
  rw [← Xn_up e4] at k4
  have k3 := Xn_inj d3 (by omega) k4
  have k3' : Xn 8 (Xn 8 e1 ^^^ e2) = 256 * e4 ^^^ e3 := by rw [← k3, xor_cancel]
  have g3 : 256 * e4 ^^^ e3 < 65536 := Nat.xor_lt_two_pow (n := 16) (by omega) (by omega)
  rw [← Xn_up (256 * e4 ^^^ e3)] at k3'
  have k2 := Xn_inj d2 (by omega) k3'
  have k2' : Xn 8 e1 = 256 * (256 * e4 ^^^ e3) ^^^ e2 := by rw [← k2, xor_cancel]
  have g2 : 256 * (256 * e4 ^^^ e3) ^^^ e2 < 16777216 := Nat.xor_lt_two_pow (n := 24) (by omega) (by omega)
  rw [← Xn_up (256 * (256 * e4 ^^^ e3) ^^^ e2)] at k2'
  have k1 := Xn_inj b1 (by omega) k2'
  have z2 : 256 * (256 * e4 ^^^ e3) ^^^ e2 = 0 := by omega
  have z1 := xor_eq_zero z2
  have z3 := xor_eq_zero (a := 256 * e4) (b := e3) (by omega)
  omega
/-- two texts alike but for four bytes side by side have one sum just if these are alike -/
theorem run_four (r a b c d a' b' c' d' : Nat)
    (ha : a < 256) (hb : b < 256) (hc : c < 256) (hd : d < 256) (ha' : a' < 256) (hb' : b' < 256) (hc' : c' < 256) (hd' : d' < 256)
    (h : run r [a, b, c, d] = run r [a', b', c', d']) : a = a' ∧ b = b' ∧ c = c' ∧ d = d' := by
  have l : ∀ {x y : Nat}, x < 256 → y < 256 → x ^^^ y < 256 := fun hx hy => Nat.xor_lt_two_pow (n := 8) hx hy
  have h0 : run r [a, b, c, d] ^^^ run r [a', b', c', d'] = 0 := by rw [h, Nat.xor_self]
  simp only [run] at h0
  rw [step_diff, step_diff, step_diff, step_diff, Nat.xor_self, Nat.zero_xor] at h0
  obtain ⟨z1, z2, z3, z4⟩ := chain _ _ _ _ (l ha ha') (l hb hb') (l hc hc') (l hd hd') h0
  exact ⟨xor_eq_zero z1, xor_eq_zero z2, xor_eq_zero z3, xor_eq_zero z4⟩
theorem run_inj {l : List Nat} {r s : Nat} (hr : r < 4294967296) (hs : s < 4294967296) (h : run r l = run s l) : r = s := by
  have e : s = r ^^^ (r ^^^ s) := by rw [← Nat.xor_assoc, Nat.xor_self, Nat.zero_xor]
  rw [e, run_xor] at h
  have h' := congrArg (run r l ^^^ ·) h
  simp only [← Nat.xor_assoc, Nat.xor_self, Nat.zero_xor] at h'
  exact xor_eq_zero (Xn_inj0 _ (xor_lt hr hs) h'.symm)
/-- a burst within four bytes is told -/
theorem crc_burst (p q : List Nat) (a b c d a' b' c' d' : Nat) (hp : ∀ c ∈ p, c < 256)
    (ha : a < 256) (hb : b < 256) (hc : c < 256) (hd : d < 256) (ha' : a' < 256) (hb' : b' < 256) (hc' : c' < 256) (hd' : d' < 256)
    (h : crc (p ++ [a, b, c, d] ++ q) = crc (p ++ [a', b', c', d'] ++ q)) : a = a' ∧ b = b' ∧ c = c' ∧ d = d' := by
  have h1 : run ones (p ++ [a, b, c, d] ++ q) = run ones (p ++ [a', b', c', d'] ++ q) := by
    have := congrArg (· ^^^ ones) h
    simpa only [crc, xor_cancel] using this
  have hr : run ones p < 4294967296 := run_lt p (by decide) hp
  have lt4 : ∀ x y z t : Nat, x < 256 → y < 256 → z < 256 → t < 256 → run (run ones p) [x, y, z, t] < 4294967296 := by
    intro x y z t hx hy hz ht
    refine run_lt _ hr ?_
    intro c hc
    simp only [List.mem_cons, List.not_mem_nil, or_false] at hc
    rcases hc with rfl | rfl | rfl | rfl <;> assumption
  rw [run_append, run_append, run_append, run_append] at h1
  exact run_four _ _ _ _ _ _ _ _ _ ha hb hc hd ha' hb' hc' hd' (run_inj (lt4 _ _ _ _ ha hb hc hd) (lt4 _ _ _ _ ha' hb' hc' hd') h1)

/-! ### products: the highest bit is the number 1 -/
def times : Nat → Nat → Nat → Nat → Nat
  | 0, _, _, out => out
  | n + 1, a, b, out => times n a (X b) (if a / 2 ^ n % 2 = 1 then out ^^^ b else out)
theorem times_X : ∀ (n a b out : Nat), times n a (X b) (X out) = X (times n a b out)
  | 0, _, _, _ => rfl
  | n + 1, a, b, out => by
    simp only [times]
    rw [← times_X n]
    congr 1
    split
    · rw [X_xor]
    · rfl
theorem times_Xn : ∀ (m n a b out : Nat), times n a (Xn m b) (Xn m out) = Xn m (times n a b out)
  | 0, _, _, _, _ => rfl
  | m + 1, n, a, b, out => by
    simp only [Xn]
    rw [times_Xn m, times_X]
theorem X_half (n : Nat) : X (2 ^ (n + 1)) = 2 ^ n := by
  rw [Nat.pow_succ, Nat.mul_comm]; exact X_two _
theorem xor_high (n q : Nat) : 2 ^ (n + 1) * q ^^^ 2 ^ n = 2 ^ (n + 1) * q + 2 ^ n := by
  have e : 2 * q ^^^ 1 = 2 * q + 1 := by
    have h1 : (2 * q ^^^ 1) / 2 = q := by rw [Nat.xor_div_two]; simp
    have h2 : (2 * q ^^^ 1) % 2 = 1 := by rw [Nat.xor_mod_two_eq_one]; omega
    omega
  have h := Nat.shiftLeft_xor_distrib (a := 2 * q) (b := 1) (i := n)
  rw [e] at h
  simp only [Nat.shiftLeft_eq] at h
  rw [show 2 ^ (n + 1) * q = 2 * q * 2 ^ n by rw [Nat.pow_succ, Nat.mul_comm 2 q, Nat.mul_assoc q, Nat.mul_comm, Nat.mul_comm 2], ]
  rw [Nat.one_mul] at h
  rw [← h, Nat.add_mul, Nat.one_mul]
/-- times 1 -/
theorem times_one : ∀ (n a b out : Nat), (1 ≤ n → b = 2 ^ (n - 1)) → out % 2 ^ n = 0 → times n a b out = out + a % 2 ^ n
  | 0, a, _, out, _, _ => by simp [times, Nat.mod_one]
  | n + 1, a, b, out, hb, h => by
    obtain rfl := hb (by omega)
    obtain ⟨q, rfl⟩ : ∃ q, out = 2 ^ (n + 1) * q := ⟨out / 2 ^ (n + 1), by rw [Nat.mul_div_cancel' (Nat.dvd_of_mod_eq_zero h)]⟩
    have hx := xor_high n q
    have hp := Nat.pow_succ (n := 2) (m := n)
    simp only [times]
    rw [show n + 1 - 1 = n by omega, hx, Nat.mod_pow_succ]
    rw [times_one n]
    · rcases Nat.mod_two_eq_zero_or_one (a / 2 ^ n) with hm | hm
      · rw [if_neg (by omega), hm]; omega
      · rw [if_pos hm, hm]; omega
    · intro hn
      obtain ⟨m, rfl⟩ : ∃ m, n = m + 1 := ⟨n - 1, by omega⟩
      rw [X_half]; rfl
    · rw [hp]
      split
      · rw [show 2 ^ n * 2 * q + 2 ^ n = 2 ^ n * (2 * q + 1) by rw [Nat.mul_add, Nat.mul_assoc, Nat.mul_one], Nat.mul_mod_right]
      · rw [Nat.mul_assoc, Nat.mul_mod_right]
/-- the product, as it is reckoned -/
def tim (a b : Nat) : Nat := times 32 a b 0
def unit : Nat := 2147483648
theorem tim_unit {a : Nat} (h : a < 4294967296) : tim a unit = a := by
  have := times_one 32 a unit 0 (by intro _; rfl) (by simp)
  unfold tim
  rw [this]
  omega
theorem tim_Xn {a : Nat} (m : Nat) (h : a < 4294967296) : tim a (Xn m unit) = Xn m a := by
  have := times_Xn m 32 a unit 0
  rw [Xn_zero] at this
  unfold tim
  rw [this]
  exact congrArg (Xn m) (tim_unit h)
theorem times_lt : ∀ (n a b out : Nat), b < 4294967296 → out < 4294967296 → times n a b out < 4294967296
  | 0, _, _, _, _, h => h
  | n + 1, a, b, out, hb, h => by
    simp only [times]
    refine times_lt n _ _ _ (X_lt hb) ?_
    split
    · exact xor_lt h hb
    · exact h
theorem unit_lt : unit < 4294967296 := by decide
/-- the power of so many zero bytes, as it is reckoned: out · base^n -/
def pow : Nat → Nat → Nat → Nat → Nat
  | 0, _, out, _ => out
  | k + 1, n, out, base => if n = 0 then out else pow k (n / 2) (if n % 2 = 1 then tim out base else out) (tim base base)
theorem pow_eq : ∀ (k n i j : Nat), n < 2 ^ k → pow k n (Xn i unit) (Xn j unit) = Xn (i + j * n) unit
  | 0, n, i, j, h => by
    have : n = 0 := by simp at h; exact h
    simp [pow, this]
  | k + 1, n, i, j, h => by
    simp only [pow]
    by_cases hn : n = 0
    · simp [hn]
    · rw [if_neg hn]
      have hb : tim (Xn j unit) (Xn j unit) = Xn (j + j) unit := by
        rw [tim_Xn j (Xn_lt j unit_lt), ← Xn_add]
      rw [hb]
      have hk : n / 2 < 2 ^ k := by rw [Nat.pow_succ] at h; omega
      by_cases ho : n % 2 = 1
      · rw [if_pos ho, tim_Xn j (Xn_lt i unit_lt), ← Xn_add, pow_eq k _ _ _ hk]
        congr 1
        have : n = 2 * (n / 2) + 1 := by omega
        rw [← Nat.two_mul j, Nat.mul_comm 2 j, Nat.mul_assoc, Nat.add_assoc]
        congr 1
        have e : j + j * (2 * (n / 2)) = j * (2 * (n / 2) + 1) := by rw [Nat.mul_add, Nat.mul_one, Nat.add_comm]
        rw [e, ← this]
      · rw [if_neg ho, pow_eq k _ _ _ hk]
        congr 1
        rw [← Nat.two_mul j, Nat.mul_comm 2 j, Nat.mul_assoc]
        congr 2
        omega
/-- the sum of both out of their sums -/
theorem join (a b : List Nat) (k : Nat) (ha : ∀ c ∈ a, c < 256) (h : b.length < 2 ^ k) :
    tim (crc a) (pow k b.length unit (Xn 8 unit)) ^^^ crc b = crc (a ++ b) := by
  have := pow_eq k b.length 0 8 h
  rw [show Xn 0 unit = unit from rfl] at this
  rw [this, tim_Xn _ (crc_lt a ha), crc_append, Nat.zero_add]
theorem unit8 : Xn 8 unit = 8388608 := by decide
end Go.Proofs.Ythflkhalipkdgaa.Crc
