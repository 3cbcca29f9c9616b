/- Contracts of layer 2: lists that are read. -/
import Derived.Test.YtpofjeenednjcaaProg
import Derived.Below
import Derived.WalkKit
import Derived.KernelRfl
import Derived.RowKit3
import Derived.Deep.LoopGhost
import Derived.Deep.QuietTactic
import Derived.BigQuiet
import Derived.WideLaws
import Derived.Deep.DeepCutAuto
import Derived.Deep.CutBlock
import Derived.Lib.Hide
import Derived.Laws.BitsLemmas
import Derived.Laws.Bits64
import Derived.Laws.BitsAllLaws
import Derived.IntWalk
import Derived.Outline
import Derived.WalkSpells
import Derived.Test.YtpofjeenednjcaaMem
import Derived.Test.YtpofjeenednjcaaPk10
import Derived.Deep.AppendLies
namespace Go.Proofs.Ytpofjeenednjcaa.Pk
open Go.RowKit Go.Proofs.Ytpofjeenednjcaa.Mem

theorem list_long (b : Nat) (vs : Value) (a : Option Addr) (n c : Nat) (hv : vs = .slice a n c) (hn : 65535 < n) (w : World) :
    Calls Try.prog 37 #[.pointer (some ⟨b, 0, none⟩), vs, .func (.func 38) #[] #[]] w fun e w' => e = .returned (.bool false) ∧ w = w' := by
  subst hv
  have heq := eq_func 38
  have hd : decide ((65535 : Int) < (n : Int)) = true := decide_eq_true (by omega)
  go_enter Try.func37, Try.ntmps37
  go_wp2
  go_ret
  exact ⟨rfl, rfl⟩
theorem eq_nilfunc (w : World) : (binOp .eql 63 .nilFunc .nilFunc).run Try.prog w = .ok (.bool true) w := by
  first
    | rfl
    | kernel_rfl
theorem list_nofunc (b : Nat) (vs : Value) (a : Option Addr) (n c : Nat) (hv : vs = .slice a n c) (w : World) :
    Calls Try.prog 37 #[.pointer (some ⟨b, 0, none⟩), vs, .nilFunc] w fun e w' => e = .returned (.bool false) ∧ w = w' := by
  subst hv
  have heq := eq_nilfunc
  go_enter Try.func37, Try.ntmps37
  go_wp2
  go_ret
  exact ⟨rfl, rfl⟩
theorem neq_func (f : FuncId) (w : World) : (binOp .neq 65 (.func (.func f) #[] #[]) .nilFunc).run Try.prog w = .ok (.bool true) w := by
  first
    | rfl
    | kernel_rfl
theorem read_nil (most : Int) (hm : 0 ≤ most) (w : World) :
    Calls Try.prog 39 #[.pointer none, .int .i64 most, .func (.func 40) #[] #[]] w fun e w' => e = .returned (.slice none 0 0) ∧ w = w' := by
  have hd : decide (most < 0) = false := decide_eq_false (by omega)
  have heq := neq_func 40
  go_enter Try.func39, Try.ntmps39
  go_wp2_with (first
    | (go_at_call 29; refine (inNum_nil _ _).mono ?_; rintro e w' ⟨rfl, rfl⟩)
    | (go_at_call 33; refine (inBad_nil _).mono ?_; rintro e w' ⟨rfl, rfl⟩))
  go_loop [9] (fun i => i = .int .i64 0) (fun _ => 0)
  case atStart => rfl
  case round =>
    subst hrel
    go_wp2_with (go_at_call 33; refine (inBad_nil _).mono ?_; rintro e w' ⟨rfl, rfl⟩)
    go_ret
    exact ⟨rfl, rfl⟩
/-- what a list of bytes reads as: it, what is left -/
theorem read_over (b : Nat) (s : ByteArray) (bad : Bool) (most : Int) (w : World) (h : InAt w b s bad) (hm : most < ((inNumV s bad 2).1 : Nat)) :
    Calls Try.prog 39 #[.pointer (some ⟨b, 0, none⟩), .int .i64 most, .func (.func 40) #[] #[]] w fun e w' => e = .returned (.slice none 0 0) ∧ InAt w' b (inNumV s bad 2).2.1 true ∧ Off [b] w w' := by
  have hk := Lib.hid (inNum b s bad w 2 h)
  have heq := neq_func 40
  generalize inNumV s bad 2 = q at *
  obtain ⟨q1, q2, q3⟩ := q
  have hd : decide (most < (q1 : Int)) = true := decide_eq_true hm
  clear hm h
  go_enter Try.func39, Try.ntmps39
  go_wp2_with (first
    | (go_at_call 29; refine hk.out.mono ?_; rintro e w1 ⟨rfl, h1, h2⟩)
    | (go_at_call 50; refine (inSpoil b q2 q3 _ h1).mono ?_; rintro e w3 ⟨rfl, h3, h4⟩))
  have hof := h2.trans h4 (fun i _ hi => hi)
  clear h1 h2 h4 hk
  go_loop [9] (fun i => i = .int .i64 0) (fun _ => 0)
  case atStart => rfl
  case round =>
    subst hrel
    by_cases hq : 0 < q1
    all_goals
      go_wp2_with (go_at_call 33; refine (inBad b _ _ _ h3).mono ?_; rintro e w' ⟨rfl, rfl⟩)
      go_ret
      exact ⟨rfl, h3, hof⟩
theorem nums_get (s : ByteArray) (k : Nat) (h : k < s.size) : (nums s).take (k + 1) = (nums s).take k ++ [s[k].toNat] := by
  rw [List.take_succ_eq_append_getElem (by rw [nums_length]; exact h)]
  simp [nums]
  rfl
/-- one byte of what is left -/
theorem one_byte (s : ByteArray) (k : Nat) (h : k < s.size) : inNumV (s.extract k s.size) false 1 = (s[k].toNat, s.extract (k + 1) s.size, false) := by
  have hz : (s.extract k s.size).size = s.size - k := by rw [ByteArray.size_extract]; omega
  have hb : be (s.extract k s.size) 1 = s[k].toNat := by
    rw [be_succ _ 0 (by omega)]
    simp [be, beL, ByteArray.getElem_extract]
  have hlt := s[k].toNat_lt
  unfold inNumV
  rw [show (1 : Int).toNat = 1 from rfl, hb, if_pos ⟨rfl, rfl, by omega, by omega⟩, hz]
  refine Prod.ext rfl (Prod.ext ?_ rfl)
  show (s.extract k s.size).extract 1 (s.size - k) = s.extract (k + 1) s.size
  rw [ByteArray.extract_extract]
  congr 1
  omega
theorem no_byte (s : ByteArray) : inNumV (s.extract s.size s.size) false 1 = (0, s.extract s.size s.size, true) := by
  unfold inNumV
  rw [if_neg]
  intro h
  have := h.2.2.1
  rw [ByteArray.size_extract] at this
  omega
theorem rows_single1 {w : World} {g : Nat} {cs : List Value} {t : TypeId} {sz c : Nat} (h : Blk w g cs.toArray t) : RowsAt w (.slice (some ⟨g, 0, none⟩) 1 c) sz [cs] := by
  refine .inr ⟨⟨g, 0, none⟩, c, rfl, fun i hi j u hu => ?_⟩
  obtain rfl : i = 0 := by simpa using hi
  have := rows_one h j u hu
  simpa [Addr.add] using this
def ints (l : List Nat) : List Value := l.map fun c : Nat => Value.int .i64 (c : Int)
theorem ints_snoc (l : List Nat) (c : Nat) : ints (l ++ [c]) = ints l ++ [.int .i64 (c : Int)] := by simp [ints]
set_option maxRecDepth 20000 in
set_option maxHeartbeats 1600000 in
theorem read_main (b : Nat) (s : ByteArray) (bad : Bool) (most : Int) (w : World) (h : InAt w b s bad) (n : Nat) (s1 : ByteArray) (b1 : Bool) (hq : inNumV s bad 2 = (n, s1, b1)) (hm : (n : Int) ≤ most) (hn : n ≤ 65535) :
    Calls Try.prog 39 #[.pointer (some ⟨b, 0, none⟩), .int .i64 most, .func (.func 40) #[] #[]] w fun e w' => ∃ v, e = .returned v ∧ Off [b] w w' ∧
      ((b1 = false ∧ n ≤ s1.size ∧ InAt w' b (s1.extract n s1.size) false ∧ w'.ownsRow w.heap.size 3 1 v n (ints ((nums s1).take n))) ∨ ((b1 = true ∨ s1.size < n) ∧ v = .slice none 0 0 ∧ ∃ s', InAt w' b s' true)) := by
  have hk := inNum b s bad w 2 h
  rw [hq] at hk
  have HK := Lib.hid hk
  have hbw := Blk.lt h
  clear hk hq h
  have heq := neq_func 40
  have hd : decide (most < (n : Int)) = false := decide_eq_false (by omega)
  obtain ⟨i0, hi, hh⟩ := Option.map_eq_some_iff.1 (show (Try.prog.info? 3).map (fun i => (i.zero, i.size, i.bytes)) = some (some (.int .i64 0), 1, 8) by kernel_rfl)
  simp only [Prod.mk.injEq] at hh
  go_enter Try.func39, Try.ntmps39
  go_wp2_with (go_at_call 29; refine HK.out.mono ?_; rintro e w1 ⟨rfl, h1, h2⟩)
  have H1 := Lib.hid (And.intro h1 h2)
  clear h1 h2 HK
  go_loopw [8, 9] (fun vl vi wr => ∃ (k m : Nat) (xs : List Value), k ≤ n ∧ m ≤ n ∧ vi = .int .i64 k ∧ wr.ownsRow w.heap.size 3 1 vl m xs ∧ Off [b] w wr ∧
    ((b1 = false ∧ k ≤ s1.size ∧ InAt wr b (s1.extract k s1.size) false ∧ m = k ∧ xs = ints ((nums s1).take k)) ∨ ((b1 = true ∨ s1.size < n) ∧ ∃ s', InAt wr b s' true))) (fun _ vi _ => n - (intOf vi).toNat)
  case atStart =>
    refine ⟨0, 0, [], Nat.zero_le _, Nat.zero_le _, rfl, World.ownsRow_nil _ _ _ _, H1.out.2, ?_⟩
    cases b1
    · refine .inl ⟨rfl, Nat.zero_le _, ?_, rfl, rfl⟩
      rw [show s1.extract 0 s1.size = s1 by simp]
      exact H1.out.1
    · exact .inr ⟨.inl rfl, s1, H1.out.1⟩
  case round =>
    obtain ⟨k, m, xs, hk, hmn, rfl, hown, hof, hst⟩ := hrel
    clear H1
    obtain ⟨va, vc, rfl⟩ := own_form hown
    rcases hst with ⟨hb1, hks, hI, rfl, rfl⟩ | ⟨hb1, s', hI⟩
    · by_cases hlt : m < n
      · by_cases hs : m < s1.size
        · have hrd := readC b _ false wr hI
          rw [one_byte s1 m hs] at hrd
          have HRD := Lib.hid hrd
          have HI := Lib.hid hI
          have hbad := Lib.hid (inBad b _ _ _ hI)
          clear hI hrd
          generalize hcx : s1[m].toNat = cx at *
          go_wp2_with (first
            | (go_at_call 33; refine hbad.out.mono ?_; rintro e w' ⟨rfl, rfl⟩)
            | (go_at_call 40; refine HRD.out.mono ?_; rintro e w2 ⟨rfl, hI2, hf2⟩; have hown2 := owns_off hown hf2 (by intro k hk; have := (hown.lt k (by simpa using hk)).1; simp; omega); have hsz2 := hf2.size)
            | (at_builtin; go_loud (refine wpList_append_rows _ rfl (.tmp 31) (.tmp 35) 35 rfl w.heap.size 3 i0 _ 1 8 Try.underlying35 hi hh.1 hh.2.1 hh.2.2 rfl (by decide) (.slice va m vc) _ _ rfl (hown2.alloc _) _ [[.int .i64 ((cx : Nat) : Int)]] rfl (rows_single1 (blk_new' _ _ _ w2.heap.size rfl)) (by simp) (by intro r hr u hu; simp only [List.mem_singleton] at hr; subst hr; simp only [List.mem_singleton] at hu; subst hu; rfl) (by unfold maxLen; simp; omega) (by simp; omega) (by have := hof.size; simp; omega) ?_; intro v3 w3 hown3 hgrow3 hgo3; rw [show ∀ z : Value, [[z]].flatten = [z] from fun _ => rfl, show ∀ z : Value, [[z]].length = 1 from fun _ => rfl] at hown3; have hf3 := ((((hof.trans hf2 (fun i _ hi => hi)).alloc _).grown hgrow3 (fun k hk => .inr (hown.lt k hk).1))); obtain ⟨a3, c3, rfl⟩ := own_form hown3; have hI3 := (Blk.alloc hI2 (.cells #[.int .i64 ((cx : Nat) : Int)] 3)); have hI4 := Lib.hid (show Blk w3 b _ _ from (hgrow3.block b (by have := hI3.lt; exact this) (fun e => by have := (hown.lt b e.symm).1; omega)).trans hI3))))
          go_roundw
          case rel =>
            refine ⟨m + 1, m + 1, _, by omega, by omega, by go_num, hown3, hf3, .inl ⟨hb1, by omega, hI4.out, rfl, ?_⟩⟩
            rw [nums_get s1 m hs, ints_snoc, hcx]
          case measure => simp [intOf] <;> omega
        · have hrd := readC b _ false wr hI
          obtain rfl : m = s1.size := by omega
          rw [no_byte s1] at hrd
          have HRD := Lib.hid hrd
          have HI := Lib.hid hI
          have hbad := Lib.hid (inBad b _ _ _ hI)
          clear hI hrd
          go_wp2_with (first
            | (go_at_call 33; refine hbad.out.mono ?_; rintro e w' ⟨rfl, rfl⟩)
            | (go_at_call 40; refine HRD.out.mono ?_; rintro e w2 ⟨rfl, hI2, hf2⟩; have hown2 := owns_off hown hf2 (by intro k hk; have := (hown.lt k (by simpa using hk)).1; simp; omega); have hsz2 := hf2.size)
            | (at_builtin; go_loud (refine wpList_append_rows _ rfl (.tmp 31) (.tmp 35) 35 rfl w.heap.size 3 i0 _ 1 8 Try.underlying35 hi hh.1 hh.2.1 hh.2.2 rfl (by decide) (.slice va s1.size vc) _ _ rfl (hown2.alloc _) _ [[.int .i64 ((0 : Nat) : Int)]] rfl (rows_single1 (blk_new' _ _ _ w2.heap.size rfl)) (by simp) (by intro r hr u hu; simp only [List.mem_singleton] at hr; subst hr; simp only [List.mem_singleton] at hu; subst hu; rfl) (by unfold maxLen; simp; omega) (by simp; omega) (by have := hof.size; simp; omega) ?_; intro v3 w3 hown3 hgrow3 hgo3; rw [show ∀ z : Value, [[z]].flatten = [z] from fun _ => rfl, show ∀ z : Value, [[z]].length = 1 from fun _ => rfl] at hown3; have hf3 := ((((hof.trans hf2 (fun i _ hi => hi)).alloc _).grown hgrow3 (fun k hk => .inr (hown.lt k hk).1))); obtain ⟨a3, c3, rfl⟩ := own_form hown3; have hI3 := (Blk.alloc hI2 (.cells #[.int .i64 ((0 : Nat) : Int)] 3)); have hI4 := Lib.hid (show Blk w3 b _ _ from (hgrow3.block b (by have := hI3.lt; exact this) (fun e => by have := (hown.lt b e.symm).1; omega)).trans hI3))))
          go_roundw
          case rel =>
            exact ⟨s1.size + 1, s1.size + 1, _, by omega, by omega, by go_num, hown3, hf3, .inr ⟨.inr (by omega), _, hI4.out⟩⟩
          case measure => simp [intOf] <;> omega
      · obtain rfl : m = n := by omega
        go_wp2_with (go_at_call 33; refine (inBad b _ _ _ hI).mono ?_; rintro e w' ⟨rfl, rfl⟩)
        go_ret
        exact ⟨_, rfl, hof, .inl ⟨hb1, hks, hI, hown⟩⟩
    · have HI := Lib.hid hI
      have hb1' := Lib.hid hb1
      clear hI hb1
      by_cases hlt : k < n
      all_goals
        go_wp2_with (go_at_call 33; refine (inBad b _ _ _ HI.out).mono ?_; rintro e w' ⟨rfl, rfl⟩)
        go_ret
        exact ⟨_, rfl, hof, .inr ⟨hb1'.out, rfl, s', HI.out⟩⟩
end Go.Proofs.Ytpofjeenednjcaa.Pk
