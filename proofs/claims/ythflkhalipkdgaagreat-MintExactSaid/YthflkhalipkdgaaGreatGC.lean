/- CrcMath CrcF CrcG CrcA -/
import Derived.Laws.BitsAllLaws
import Derived.Test.YthflkhalipkdgaaGreatProg
import Derived.Below
import Derived.WalkKit
import Derived.KernelRfl
import Derived.RowKit3
import Derived.Deep.LoopGhost
import Derived.Deep.QuietTactic
import Derived.BigQuiet
import Derived.WideLaws
import Derived.Deep.DeepCutAuto
import Derived.Deep.CutBlock
import Derived.Lib.Hide
import Derived.Laws.BitsLemmas
import Derived.Laws.Bits64
import Derived.IntWalk
import Derived.Outline
import Derived.WalkSpells
import Derived.Test.YthflkhalipkdgaaGreatGA
/- The sum of layer 1 as plain arithmetic of natural numbers: one step is linear, joins, turns and bursts of it. Nothing of the program stands here. -/
namespace Go.Proofs.YthflkhalipkdgaaGreat.Crc
set_option maxRecDepth 20000
set_option linter.unusedVariables false
set_option linter.unusedSimpArgs false

def poly : Nat := 3988292384
def ones : Nat := 4294967295
/-- one bit's step -/
def X (r : Nat) : Nat := (r / 2) ^^^ (if r % 2 = 1 then poly else 0)
def Xn : Nat → Nat → Nat
  | 0, r => r
  | n + 1, r => Xn n (X r)
def stepN (r c : Nat) : Nat := Xn 8 (r ^^^ c)
def run (r : Nat) : List Nat → Nat
  | [] => r
  | c :: l => run (stepN r c) l
def crc (l : List Nat) : Nat := run ones l ^^^ ones

theorem xor_lt {a b : Nat} (ha : a < 4294967296) (hb : b < 4294967296) : a ^^^ b < 4294967296 :=
  Nat.xor_lt_two_pow (n := 32) ha hb
theorem X_lt {r : Nat} (h : r < 4294967296) : X r < 4294967296 := by
  unfold X
  refine xor_lt (by omega) ?_
  split <;> simp [poly]
theorem Xn_lt : ∀ (n : Nat) {r : Nat}, r < 4294967296 → Xn n r < 4294967296
  | 0, _, h => h
  | n + 1, _, h => Xn_lt n (X_lt h)
theorem Xn_add : ∀ (m n r : Nat), Xn (m + n) r = Xn n (Xn m r)
  | 0, n, r => by simp [Xn]
  | m + 1, n, r => by rw [Nat.add_right_comm]; simp only [Xn]; exact Xn_add m n (X r)
theorem Xn_succ (n r : Nat) : Xn (n + 1) r = X (Xn n r) := by rw [Xn_add n 1]; rfl

theorem stepN_lt {r c : Nat} (h : r < 4294967296) (hc : c < 256) : stepN r c < 4294967296 := Xn_lt 8 (xor_lt h (by omega))
theorem run_lt : ∀ (l : List Nat) {r : Nat}, r < 4294967296 → (∀ c ∈ l, c < 256) → run r l < 4294967296
  | [], _, h, _ => h
  | c :: l, r, h, hl => run_lt l (stepN_lt h (hl c (by simp))) fun d hd => hl d (by simp [hd])
theorem crc_lt (l : List Nat) (hl : ∀ c ∈ l, c < 256) : crc l < 4294967296 := xor_lt (run_lt l (by decide) hl) (by decide)
theorem run_append : ∀ (a b : List Nat) (r : Nat), run r (a ++ b) = run (run r a) b
  | [], _, _ => rfl
  | c :: a, b, r => run_append a b (stepN r c)
/-- what is added behind -/
def more (sum : Nat) (l : List Nat) : Nat := run (sum ^^^ ones) l ^^^ ones
theorem crc_nil : crc [] = 0 := by decide
theorem xor_cancel (a b : Nat) : a ^^^ b ^^^ b = a := by rw [Nat.xor_assoc, Nat.xor_self, Nat.xor_zero]
theorem more_crc (a b : List Nat) : more (crc a) b = crc (a ++ b) := by
  unfold more crc
  rw [xor_cancel, run_append]
/-! ### three texts turned by one another -/
/-! ### bursts -/
/-! ### products: the highest bit is the number 1 -/
end Go.Proofs.YthflkhalipkdgaaGreat.Crc

/- Contracts of the functions of layer 1 and of its reference: they come to the plain sums of CrcMath. -/
namespace Go.Proofs.YthflkhalipkdgaaGreat.CrcF
set_option maxRecDepth 20000
set_option linter.unusedVariables false
set_option linter.unusedSimpArgs false
open Go.RowKit Go.Proofs.YthflkhalipkdgaaGreat Go.Proofs.YthflkhalipkdgaaGreat.Mem

theorem ret_int {k : IntKind} {a b : Int} (h : a = b) : Ending.returned (.int k a) = .returned (.int k b) := by rw [h]
theorem ret_bool {a b : Bool} (h : a = b) : Ending.returned (.bool a) = .returned (.bool b) := by rw [h]
theorem xorC {a b : Nat} (h : a < 4294967296) (hb : b < 4294967296) : bits .xor .u32 (a : Int) (b : Int) = ((a ^^^ b : Nat) : Int) := u32_xor_nat a b h hb
theorem and1 {a : Nat} (h : a < 4294967296) : bits .and .u32 (a : Int) 1 = ((a % 2 : Nat) : Int) := by
  have := u32_and_nat a 1 h (by decide)
  rw [Nat.and_one_is_mod] at this
  exact this
theorem X_odd {r : Nat} (h : r < 4294967296) (ho : r % 2 = 1) : bits .xor .u32 ((r : Int) / 2) 3988292384 = ((Crc.X r : Nat) : Int) := by
  unfold Crc.X
  rw [if_pos ho, show (r : Int) / 2 = ((r / 2 : Nat) : Int) by omega]
  exact xorC (by omega) (b := 3988292384) (by decide)
theorem X_even {r : Nat} (ho : ¬ r % 2 = 1) : (r : Int) / 2 = ((Crc.X r : Nat) : Int) := by
  unfold Crc.X
  rw [if_neg ho, show (r : Int) / 2 = ((r / 2 : Nat) : Int) by omega, Nat.xor_zero]

theorem step (r c : Nat) (hr : r < 4294967296) (hc : c < 256) (w : World) :
    Calls Tryz.prog 111 #[.int .u32 r, .int .u8 c] w fun e w' => e = .returned (.int .u32 ((Crc.stepN r c : Nat) : Int)) ∧ w = w' := by
  have hx : r ^^^ c < 4294967296 := Crc.xor_lt hr (by omega)
  have H0 := Lib.hid (show bits .xor .u32 (r : Int) (c : Int) = ((r ^^^ c : Nat) : Int) from xorC hr (by omega))
  go_enter Tryz.func111, Tryz.ntmps111
  go_wp2
  go_loop [0, 10] (fun t i => ∃ k : Nat, k ≤ 8 ∧ i = .int .i64 k ∧ t = .int .u32 ((Crc.Xn k (r ^^^ c) : Nat) : Int)) (fun _ i => 8 - (intOf i).toNat)
  case atStart => exact ⟨0, Nat.zero_le _, rfl, by rw [H0.out]; rfl⟩
  case round =>
    obtain ⟨k, hk, rfl, rfl⟩ := hrel
    have hs := Lib.hid (Crc.Xn_succ k (r ^^^ c))
    have hlt := Crc.Xn_lt k hx
    generalize hg : Crc.Xn k (r ^^^ c) = x at *
    have Hg := Lib.hid hg
    clear hg
    by_cases hk8 : k < 8
    · by_cases ho : x % 2 = 1
      · have ht : (bits .and .u32 (x : Int) 1 == 1) = true := by rw [and1 hlt, ho]; rfl
        have HX := Lib.hid (X_odd hlt ho)
        clear ho
        go_wp2
        go_round
        case rel => exact ⟨k + 1, by omega, by go_num, by rw [hs.out, HX.out]⟩
        case measure => simp [intOf]; omega
      · have ht : (bits .and .u32 (x : Int) 1 == 1) = false := by rw [and1 hlt, beq_eq_false_iff_ne]; omega
        have HX := Lib.hid (X_even ho)
        clear ho
        go_wp2
        go_round
        case rel => exact ⟨k + 1, by omega, by go_num, by rw [hs.out, HX.out]⟩
        case measure => simp [intOf]; omega
    · obtain rfl : k = 8 := by omega
      go_wp2
      go_ret
      exact ⟨ret_int (by rw [← Hg.out]; rfl), rfl⟩

/-- the bytes of a text, as numbers -/
def nums (s : ByteArray) : List Nat := s.data.toList.map UInt8.toNat
theorem nums_lt (s : ByteArray) : ∀ c ∈ nums s, c < 256 := by
  intro c hc
  obtain ⟨x, _, rfl⟩ := List.mem_map.mp hc
  exact x.toNat_lt
theorem nums_length (s : ByteArray) : (nums s).length = s.size := by simp [nums]
theorem nums_take (s : ByteArray) (k : Nat) (h : k < s.size) : (nums s).take (k + 1) = (nums s).take k ++ [s[k].toNat] := by
  rw [List.take_succ_eq_append_getElem (by rw [nums_length]; exact h)]
  simp [nums]
  rfl

theorem more (sum : Nat) (s : ByteArray) (hr : sum < 4294967296) (hs : s.size ≤ 140737488351232) (w : World) :
    Calls Tryz.prog 99 #[.int .u32 sum, .string s] w fun e w' => e = .returned (.int .u32 ((Crc.more sum (nums s) : Nat) : Int)) ∧ w = w' := by
  have hx : sum ^^^ Crc.ones < 4294967296 := Crc.xor_lt hr (by decide)
  have H0 := Lib.hid (show bits .xor .u32 (sum : Int) 4294967295 = ((sum ^^^ Crc.ones : Nat) : Int) from xorC hr (b := Crc.ones) (by decide))
  go_enter Tryz.func99, Tryz.ntmps99
  go_wp2
  go_loop [5, 11] (fun t i => ∃ k : Nat, k ≤ s.size ∧ i = .int .i64 k ∧ t = .int .u32 ((Crc.run (sum ^^^ Crc.ones) ((nums s).take k) : Nat) : Int)) (fun _ i => s.size - (intOf i).toNat)
  case atStart => exact ⟨0, Nat.zero_le _, rfl, by rw [H0.out]; rfl⟩
  case round =>
    obtain ⟨k, hk, rfl, rfl⟩ := hrel
    have hlt := Crc.run_lt ((nums s).take k) hx (fun c hc => nums_lt s c (List.mem_of_mem_take hc))
    by_cases hks : k < s.size
    · have hs' := Lib.hid (show Crc.run (sum ^^^ Crc.ones) ((nums s).take (k + 1)) = Crc.stepN (Crc.run (sum ^^^ Crc.ones) ((nums s).take k)) s[k].toNat by
        rw [nums_take s k hks, Crc.run_append]; rfl)
      have hb := s[k].toNat_lt
      go_wp2_with (go_at_call 111; refine (step _ _ hlt hb _).mono ?_; rintro e w' ⟨rfl, rfl⟩)
      go_round
      case rel => exact ⟨k + 1, by omega, by go_num, by rw [hs'.out]⟩
      case measure => simp [intOf]; omega
    · obtain rfl : k = s.size := by omega
      have H1 := Lib.hid (show bits .xor .u32 ((Crc.run (sum ^^^ Crc.ones) ((nums s).take s.size) : Nat) : Int) 4294967295 = ((Crc.more sum (nums s) : Nat) : Int) by
        rw [List.take_of_length_le (by rw [nums_length]; omega)] at hlt ⊢
        exact xorC hlt (b := Crc.ones) (by decide))
      go_wp2
      go_ret
      exact ⟨ret_int H1.out, rfl⟩

end Go.Proofs.YthflkhalipkdgaaGreat.CrcF

/- Contracts of crc.Of and crc.Is, of the reference, and of what is fixed by number. -/
namespace Go.Proofs.YthflkhalipkdgaaGreat.CrcF
set_option maxRecDepth 20000
set_option linter.unusedVariables false
set_option linter.unusedSimpArgs false
open Go.RowKit Go.Proofs.YthflkhalipkdgaaGreat Go.Proofs.YthflkhalipkdgaaGreat.Mem

/-- all bytes of many texts -/
def flat : List ByteArray → List Nat
  | [] => []
  | s :: l => nums s ++ flat l
theorem flat_lt : ∀ (l : List ByteArray), ∀ c ∈ flat l, c < 256
  | [], c, h => by simp [flat] at h
  | s :: l, c, h => by
    simp only [flat, List.mem_append] at h
    exact h.elim (nums_lt s c) (flat_lt l c)
theorem flat_append : ∀ (a b : List ByteArray), flat (a ++ b) = flat a ++ flat b
  | [], _ => rfl
  | s :: a, b => by simp [flat, flat_append a b]
theorem flat_take (l : List ByteArray) (k : Nat) (h : k < l.length) : flat (l.take (k + 1)) = flat (l.take k) ++ nums l[k] := by
  rw [List.take_succ_eq_append_getElem h, flat_append]
  simp [flat]

/-- a slice at x reads as these texts -/
def StrsAt (w : World) (x : Addr) (l : List ByteArray) : Prop := ∀ (i : Nat) (h : i < l.length), w.cell? (x.add i) = some (.string l[i])

theorem of_any (x : Addr) (l : List ByteArray) (c : Nat) (hl : l.length ≤ 140737488351232) (hs : ∀ s ∈ l, s.size ≤ 140737488351232) (w : World) (h : StrsAt w x l) :
    Calls Tryz.prog 79 #[.slice (some x) l.length c] w fun e w' => e = .returned (.int .u32 ((Crc.crc (flat l) : Nat) : Int)) ∧ w = w' := by
  have H := Lib.hid h
  clear h
  have Hs := Lib.hid hs
  clear hs
  go_enter Tryz.func79, Tryz.ntmps79
  go_wp2
  go_loop [3, 8] (fun t i => ∃ k : Nat, k ≤ l.length ∧ i = .int .i64 k ∧ t = .int .u32 ((Crc.crc (flat (l.take k)) : Nat) : Int)) (fun _ i => l.length - (intOf i).toNat)
  case atStart => exact ⟨0, Nat.zero_le _, rfl, by simp [flat, Crc.crc_nil]⟩
  case round =>
    obtain ⟨k, hk, rfl, rfl⟩ := hrel
    by_cases hlt : k < l.length
    · have hc := H.out k hlt
      have hsz := Hs.out _ (List.getElem_mem hlt)
      have hsum := Crc.crc_lt (flat (l.take k)) (flat_lt _)
      have HN := Lib.hid (show Crc.more (Crc.crc (flat (l.take k))) (nums l[k]) = Crc.crc (flat (l.take (k + 1))) by rw [Crc.more_crc, flat_take l k hlt])
      generalize l[k] = s at *
      go_wp2_with (go_at_call 99; refine (more _ _ hsum hsz _).mono ?_; rintro e w' ⟨rfl, rfl⟩)
      go_round
      case rel => exact ⟨k + 1, by omega, by go_num, by rw [HN.out]⟩
      case measure => simp [intOf]; omega
    · obtain rfl : k = l.length := by omega
      go_wp2
      go_ret
      exact ⟨ret_int (by first | rfl | rw [List.take_length]), rfl⟩
/-- of one text, made at the call -/
theorem of_one (s : ByteArray) (x : Addr) (c : Nat) (hs : s.size ≤ 140737488351232) (w : World) (h : w.cell? (x.add 0) = some (.string s)) :
    Calls Tryz.prog 79 #[.slice (some x) 1 c] w fun e w' => e = .returned (.int .u32 ((Crc.crc (nums s) : Nat) : Int)) ∧ w = w' := by
  have h1 := of_any x [s] c (by simp) (by simpa using hs) w (by
    intro i hi
    obtain rfl : i = 0 := by simpa using hi
    exact h)
  simpa [flat] using h1
theorem of_new1 (s : ByteArray) (hs : s.size ≤ 140737488351232) (n : Nat) (w : World) (hn : n = w.heap.size) :
    Calls Tryz.prog 79 #[.slice (some ⟨n, 0, none⟩) 1 1] (w.alloc (.cells #[.string s] 9)) fun e w' => e = .returned (.int .u32 ((Crc.crc (nums s) : Nat) : Int)) ∧ w.alloc (.cells #[.string s] 9) = w' := by
  subst hn
  exact of_one s ⟨w.heap.size, 0, none⟩ 1 hs _ ((blk_new w _ _).cell 0 _ rfl)
theorem ref_of (s : ByteArray) (hs : s.size ≤ 140737488351232) (w : World) :
    Calls Tryz.prog 71 #[.string s] w fun e w' => e = .returned (.int .u32 ((Crc.crc (nums s) : Nat) : Int)) ∧ w = w' := by
  go_enter Tryz.func71, Tryz.ntmps71
  go_wp2
  go_loop [3, 4] (fun t i => ∃ k : Nat, k ≤ s.size ∧ i = .int .i64 k ∧ t = .int .u32 ((Crc.run Crc.ones ((nums s).take k) : Nat) : Int)) (fun _ i => s.size - (intOf i).toNat)
  case atStart => exact ⟨0, Nat.zero_le _, rfl, rfl⟩
  case round =>
    obtain ⟨k, hk, rfl, rfl⟩ := hrel
    have hlt := Crc.run_lt (r := Crc.ones) ((nums s).take k) (by decide) (fun c hc => nums_lt s c (List.mem_of_mem_take hc))
    by_cases hks : k < s.size
    · have hs' := Lib.hid (show Crc.run Crc.ones ((nums s).take (k + 1)) = Crc.stepN (Crc.run Crc.ones ((nums s).take k)) s[k].toNat by
        rw [nums_take s k hks, Crc.run_append]; rfl)
      have hb := s[k].toNat_lt
      have h0 := Lib.hid (xorC hlt (b := s[k].toNat) (by omega))
      have hx : Crc.run Crc.ones ((nums s).take k) ^^^ s[k].toNat < 4294967296 := Crc.xor_lt hlt (by omega)
      go_wp2
      go_loop [3, 5] (fun t j => ∃ n : Nat, n ≤ 8 ∧ j = .int .i64 n ∧ t = .int .u32 ((Crc.Xn n (Crc.run Crc.ones ((nums s).take k) ^^^ s[k].toNat) : Nat) : Int)) (fun _ j => 8 - (intOf j).toNat)
      case atStart => exact ⟨0, Nat.zero_le _, rfl, by rw [h0.out]; rfl⟩
      case round =>
        obtain ⟨n, hn, rfl, rfl⟩ := hrel
        have hs := Lib.hid (Crc.Xn_succ n (Crc.run Crc.ones ((nums s).take k) ^^^ s[k].toNat))
        have hlt := Crc.Xn_lt n hx
        generalize hg : Crc.Xn n (Crc.run Crc.ones ((nums s).take k) ^^^ s[k].toNat) = x at *
        have Hg := Lib.hid hg
        clear hg
        by_cases hk8 : n < 8
        · by_cases ho : x % 2 = 1
          · have ht : ((x : Int) % 2 == 1) = true := by rw [beq_iff_eq]; omega
            have HX := Lib.hid (X_odd hlt ho)
            clear ho
            go_wp2
            go_round
            case rel => exact ⟨n + 1, by omega, by go_num, by rw [hs.out, HX.out]⟩
            case measure => simp [intOf]; omega
          · have ht : ((x : Int) % 2 == 1) = false := by rw [beq_eq_false_iff_ne]; omega
            have HX := Lib.hid (X_even ho)
            clear ho
            go_wp2
            go_round
            case rel => exact ⟨n + 1, by omega, by go_num, by rw [hs.out, HX.out]⟩
            case measure => simp [intOf]; omega
        · obtain rfl : n = 8 := by omega
          go_wp2
          go_round
          case rel => exact ⟨k + 1, by omega, by go_num, by rw [hs'.out, ← Hg.out]; rfl⟩
          case measure => simp [intOf]; omega
    · obtain rfl : k = s.size := by omega
      have H1 := Lib.hid (show bits .xor .u32 ((Crc.run Crc.ones ((nums s).take s.size) : Nat) : Int) 4294967295 = ((Crc.crc (nums s) : Nat) : Int) by
        rw [List.take_of_length_le (by rw [nums_length]; omega)] at hlt ⊢
        exact xorC hlt (b := Crc.ones) (by decide))
      go_wp2
      go_ret
      exact ⟨ret_int H1.out, rfl⟩
end Go.Proofs.YthflkhalipkdgaaGreat.CrcF

/- The statements of layer 1 are awake: what is fixed by number. -/
namespace Go.Proofs.YthflkhalipkdgaaGreat.CrcF
set_option maxRecDepth 20000
set_option linter.unusedVariables false
set_option linter.unusedSimpArgs false
open Go.RowKit Go.Proofs.YthflkhalipkdgaaGreat Go.Proofs.YthflkhalipkdgaaGreat.Mem

end Go.Proofs.YthflkhalipkdgaaGreat.CrcF
