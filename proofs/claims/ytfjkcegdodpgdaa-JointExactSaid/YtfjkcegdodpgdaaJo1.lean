/- Contracts of layer 4: frames out of pieces. -/
import Derived.Test.YtfjkcegdodpgdaaProg
import Derived.Below
import Derived.WalkKit
import Derived.KernelRfl
import Derived.RowKit3
import Derived.Deep.LoopGhost
import Derived.Deep.QuietTactic
import Derived.BigQuiet
import Derived.WideLaws
import Derived.Deep.DeepCutAuto
import Derived.Deep.CutBlock
import Derived.Lib.Hide
import Derived.Laws.BitsLemmas
import Derived.Laws.Bits64
import Derived.Laws.BitsAllLaws
import Derived.IntWalk
import Derived.Outline
import Derived.WalkSpells
import Derived.Test.YtfjkcegdodpgdaaMem
import Derived.Test.YtfjkcegdodpgdaaFr3
namespace Go.Proofs.Ytfjkcegdodpgdaa.Jo
open Go.RowKit Go.Proofs.Ytfjkcegdodpgdaa.Mem Go.Proofs.Ytfjkcegdodpgdaa.Pk Go.Proofs.Ytfjkcegdodpgdaa.Fr

/-- a joint: what waits, whether it is bad, how many frames were told -/
structure JSt where
  left : ByteArray
  bad : Bool
  seen : Nat
def zero : JSt := ⟨⟨#[]⟩, false, 0⟩
def JAt (w : World) (b : Nat) (s : JSt) : Prop := Blk w b #[.string s.left, .bool s.bad, .int .i64 ((s.seen : Nat) : Int)] 71
theorem jNew (w : World) : Calls Try.prog 18 #[] w fun e w' => ∃ b, e = .returned (.pointer (some ⟨b, 0, none⟩)) ∧ w.heap.size ≤ b ∧ JAt w' b zero ∧ Off [] w w' := by
  go_enter Try.func18, Try.ntmps18
  go_wp2
  go_ret
  exact ⟨_, rfl, Nat.le_refl _, blk_new _ _ _, (Off.refl _ _).alloc _⟩
theorem jBad (b : Nat) (s : JSt) (w : World) (h : JAt w b s) : Calls Try.prog 21 #[.pointer (some ⟨b, 0, none⟩)] w fun e w' => e = .returned (.bool s.bad) ∧ w = w' := by
  have c1 := Blk.cell h 1 (.bool s.bad) rfl
  clear h
  go_enter Try.func21, Try.ntmps21
  go_wp2
  go_ret
  exact ⟨rfl, rfl⟩
theorem jBad_nil (w : World) : Calls Try.prog 21 #[.pointer none] w fun e w' => e = .returned (.bool true) ∧ w = w' := by
  go_enter Try.func21, Try.ntmps21
  go_wp2
  go_ret
  exact ⟨rfl, rfl⟩
theorem jLeft (b : Nat) (s : JSt) (w : World) (h : JAt w b s) : Calls Try.prog 22 #[.pointer (some ⟨b, 0, none⟩)] w fun e w' => e = .returned (.int .i64 ((s.left.size : Nat) : Int)) ∧ w = w' := by
  have c1 := Blk.cell h 0 (.string s.left) rfl
  clear h
  go_enter Try.func22, Try.ntmps22
  go_wp2
  go_ret
  exact ⟨rfl, rfl⟩
theorem jLeft_nil (w : World) : Calls Try.prog 22 #[.pointer none] w fun e w' => e = .returned (.int .i64 0) ∧ w = w' := by
  go_enter Try.func22, Try.ntmps22
  go_wp2
  go_ret
  exact ⟨rfl, rfl⟩
theorem jSeen (b : Nat) (s : JSt) (w : World) (h : JAt w b s) : Calls Try.prog 23 #[.pointer (some ⟨b, 0, none⟩)] w fun e w' => e = .returned (.int .i64 ((s.seen : Nat) : Int)) ∧ w = w' := by
  have c1 := Blk.cell h 2 (.int .i64 ((s.seen : Nat) : Int)) rfl
  clear h
  go_enter Try.func23, Try.ntmps23
  go_wp2
  go_ret
  exact ⟨rfl, rfl⟩
theorem jSeen_nil (w : World) : Calls Try.prog 23 #[.pointer none] w fun e w' => e = .returned (.int .i64 0) ∧ w = w' := by
  go_enter Try.func23, Try.ntmps23
  go_wp2
  go_ret
  exact ⟨rfl, rfl⟩
theorem jReset (b : Nat) (s : JSt) (w : World) (h : JAt w b s) : Calls Try.prog 24 #[.pointer (some ⟨b, 0, none⟩)] w fun e w' => e = .returned (.tuple #[]) ∧ JAt w' b zero ∧ Off [b] w w' := by
  have H := Lib.hid h
  have c0 := Blk.cell h 0 (.string s.left) rfl
  have c1 := Blk.cell h 1 (.bool s.bad) rfl
  have c2 := Blk.cell h 2 (.int .i64 ((s.seen : Nat) : Int)) rfl
  have f0 := Blk.free h 0
  have f1 := Blk.free h 1
  have f2 := Blk.free h 2
  clear h
  go_enter Try.func24, Try.ntmps24
  go_wp2
  go_end0
  refine ⟨rfl, ?_, ?_⟩
  · have := Blk.set (Blk.set (Blk.set H.out 0 (.string ⟨#[]⟩)) 1 (.bool false)) 2 (.int .i64 0)
    simpa [JAt, zero] using this
  · exact (((Off.refl _ _).setCell _ _ (.inl (by simp))).setCell _ _ (.inl (by simp))).setCell _ _ (.inl (by simp))
theorem jReset_nil (w : World) : Calls Try.prog 24 #[.pointer none] w fun e w' => e = .returned (.tuple #[]) ∧ w = w' := by
  go_enter Try.func24, Try.ntmps24
  go_wp2
  go_end0
  exact ⟨rfl, rfl⟩
/-- more bytes: the joint behind it, the bodies, whether all is right -/
def feedV (s : JSt) (c : ByteArray) : JSt × List ByteArray × Bool :=
  if s.bad then (s, [], false)
  else if (cutV (s.left ++ c)).2.2 = 3 then (⟨⟨#[]⟩, true, s.seen + (cutV (s.left ++ c)).1.length⟩, (cutV (s.left ++ c)).1, false)
  else (⟨(cutV (s.left ++ c)).2.1, false, s.seen + (cutV (s.left ++ c)).1.length⟩, (cutV (s.left ++ c)).1, true)
theorem cutN_len : ∀ (k : Nat) (s : ByteArray), (cutN k s).1.length ≤ s.size
  | 0, s => Nat.zero_le _
  | k + 1, s => by
    rw [cutN_succ]
    split
    · rename_i h
      have hw := next_whole s h
      have := cutN_len k (s.extract (nextV s).2.1 s.size)
      rw [ByteArray.size_extract] at this
      show (cutN k (s.extract (nextV s).2.1 s.size)).1.length + 1 ≤ _
      omega
    · exact Nat.zero_le _
theorem jFeed_bad (b : Nat) (s : JSt) (c : ByteArray) (w : World) (h : JAt w b s) (hb : s.bad = true) : Calls Try.prog 19 #[.pointer (some ⟨b, 0, none⟩), .string c] w fun e w' => e = .returned (.tuple #[.slice none 0 0, .bool false]) ∧ w = w' := by
  have k := jBad b s w h
  rw [hb] at k
  go_enter Try.func19, Try.ntmps19
  go_wp2_with (go_at_call 21; refine k.mono ?_; rintro e w' ⟨rfl, rfl⟩)
  go_ret2
  exact ⟨rfl, rfl⟩
theorem jFeed_nil (c : ByteArray) (w : World) : Calls Try.prog 19 #[.pointer none, .string c] w fun e w' => e = .returned (.tuple #[.slice none 0 0, .bool false]) ∧ w = w' := by
  go_enter Try.func19, Try.ntmps19
  go_wp2_with (go_at_call 21; refine (jBad_nil _).mono ?_; rintro e w' ⟨rfl, rfl⟩)
  go_ret2
  exact ⟨rfl, rfl⟩
set_option maxHeartbeats 1600000 in
theorem jFeed (b : Nat) (s : JSt) (c : ByteArray) (w : World) (h : JAt w b s) (hz : s.left.size ≤ 1000000) (hc : c.size ≤ 1000000) (hsn : s.seen ≤ 1000000000) :
    Calls Try.prog 19 #[.pointer (some ⟨b, 0, none⟩), .string c] w fun e w' => ∃ v, e = .returned (.tuple #[v, .bool (feedV s c).2.2]) ∧ JAt w' b (feedV s c).1 ∧ Off [b] w w' ∧ w'.ownsRow w.heap.size 9 1 v (feedV s c).2.1.length ((feedV s c).2.1.map .string) := by
  cases hb : s.bad
  · have hbl := Blk.lt h
    have c0 := Blk.cell h 0 (.string s.left) rfl
    have k1 := jBad b s w h
    rw [hb] at k1
    have k2 := cut (s.left ++ c) (by rw [ByteArray.size_append]; omega) w
    have hz0 : s.left.size + c.size ≤ 9223372036854775807 := by omega
    have hl : (cutV (s.left ++ c)).1.length ≤ 2000000 := by have h9 := cutN_len (s.left ++ c).size (s.left ++ c); have h8 : (s.left ++ c).size ≤ 2000000 := (by rw [ByteArray.size_append]; omega); exact Nat.le_trans h9 h8
    unfold feedV
    rw [hb]
    generalize cutV (s.left ++ c) = q at *
    obtain ⟨l, r, t⟩ := q
    have H := Lib.hid h
    clear h
    dsimp only at k2 hl
    generalize hll : l.length = n at *
    have HLL := Lib.hid hll
    clear hll
    by_cases h3 : t = 3
    · subst h3
      go_enter Try.func19, Try.ntmps19
      go_wp2_with (first
        | (go_at_call 21; refine k1.mono ?_; rintro e w' ⟨rfl, rfl⟩)
        | (go_at_call 28; refine k2.mono ?_; rintro e w1 ⟨v, rfl, hf1, hown⟩; obtain ⟨va, vc, rfl⟩ := own_form hown; have hb1 := hf1.blk H.out (by simp); have e0 := Blk.cell hb1 0 (.string s.left) rfl; have e1 := Blk.cell hb1 1 (.bool s.bad) rfl; have e2 := Blk.cell hb1 2 (.int .i64 ((s.seen : Nat) : Int)) rfl; have f0 := Blk.free hb1 0; have f1 := Blk.free hb1 1; have f2 := Blk.free hb1 2; have HB1 := Lib.hid hb1; clear hb1))
      go_quiet (fail)
      go_wp2
      go_ret2
      refine ⟨_, rfl, ?_, ?_, ?_⟩
      · have := Blk.set (Blk.set (Blk.set (Blk.set HB1.out 0 (.string r)) 2 (.int .i64 ((s.seen : Int) + (n : Int)))) 0 (.string ⟨#[]⟩)) 1 (.bool true)
        refine Blk.drewN ?_ _
        simpa [JAt, HLL.out] using this
      · exact Off.drewN (((((hf1.mono (by simp)).setCell _ _ (.inl (by simp))).setCell _ _ (.inl (by simp))).setCell _ _ (.inl (by simp))).setCell _ _ (.inl (by simp))) _
      · have e := HLL.out
        subst e
        exact owns_off hown (Off.drewN (((((Off.refl [b] w1).setCell _ _ (.inl (by simp))).setCell _ _ (.inl (by simp))).setCell _ _ (.inl (by simp))).setCell _ _ (.inl (by simp))) _) (fun k hk => by have := (hown.lt k (by simpa using hk)).1; simp; omega)
    · have hd : ((t : Int) == 3) = false := by rw [beq_eq_false_iff_ne]; omega
      go_enter Try.func19, Try.ntmps19
      go_wp2_with (first
        | (go_at_call 21; refine k1.mono ?_; rintro e w' ⟨rfl, rfl⟩)
        | (go_at_call 28; refine k2.mono ?_; rintro e w1 ⟨v, rfl, hf1, hown⟩; obtain ⟨va, vc, rfl⟩ := own_form hown; have hb1 := hf1.blk H.out (by simp); have e0 := Blk.cell hb1 0 (.string s.left) rfl; have e1 := Blk.cell hb1 1 (.bool s.bad) rfl; have e2 := Blk.cell hb1 2 (.int .i64 ((s.seen : Nat) : Int)) rfl; have f0 := Blk.free hb1 0; have f1 := Blk.free hb1 1; have f2 := Blk.free hb1 2; have HB1 := Lib.hid hb1; clear hb1))
      go_quiet (fail)
      go_wp2
      go_ret2
      refine ⟨_, rfl, ?_, ?_, ?_⟩
      · have := Blk.set (Blk.set HB1.out 0 (.string r)) 2 (.int .i64 ((s.seen : Int) + (n : Int)))
        refine Blk.drewN ?_ _
        simpa [JAt, HLL.out, hb] using this
      · exact Off.drewN (((hf1.mono (by simp)).setCell _ _ (.inl (by simp))).setCell _ _ (.inl (by simp))) _
      · have e := HLL.out
        subst e
        exact owns_off hown (Off.drewN (((Off.refl [b] w1).setCell _ _ (.inl (by simp))).setCell _ _ (.inl (by simp))) _) (fun k hk => by have := (hown.lt k (by simpa using hk)).1; simp; omega)
  · have hv : feedV s c = (s, [], false) := by unfold feedV; rw [if_pos hb]
    rw [hv]
    refine (jFeed_bad b s c w h hb).mono ?_
    rintro e w' ⟨rfl, rfl⟩
    exact ⟨_, rfl, h, Off.refl _ _, World.ownsRow_nil _ _ _ _⟩
/-- two rows of texts -/
theorem same (v1 v2 : Value) (l1 l2 : List ByteArray) (w : World) (h1 : Reads w v1 (l1.map .string)) (h2 : Reads w v2 (l2.map .string)) (hl : l1.length ≤ 1000000000) :
    Calls Try.prog 20 #[v1, v2] w fun e w' => e = .returned (.bool (decide (l1 = l2))) ∧ Off [] w w' := by
  obtain ⟨a1, c1, rfl, g1⟩ : ∃ a c, v1 = .slice a l1.length c ∧ ∀ i (h : i < l1.length), ∃ x, a = some x ∧ w.cell? (x.add i) = some (.string l1[i]) := by
    rcases h1 with ⟨rfl, h0⟩ | ⟨x, c, rfl, hc⟩
    · have : l1 = [] := by simpa using h0
      subst this
      exact ⟨_, _, rfl, by simp⟩
    · exact ⟨some x, c, by rw [List.length_map], fun i h => ⟨x, rfl, by have := hc i (by simpa using h); rw [List.getElem_map] at this; exact this⟩⟩
  obtain ⟨a2, c2, rfl, g2⟩ : ∃ a c, v2 = .slice a l2.length c ∧ ∀ i (h : i < l2.length), ∃ x, a = some x ∧ w.cell? (x.add i) = some (.string l2[i]) := by
    rcases h2 with ⟨rfl, h0⟩ | ⟨x, c, rfl, hc⟩
    · have : l2 = [] := by simpa using h0
      subst this
      exact ⟨_, _, rfl, by simp⟩
    · exact ⟨some x, c, by rw [List.length_map], fun i h => ⟨x, rfl, by have := hc i (by simpa using h); rw [List.getElem_map] at this; exact this⟩⟩
  clear h1 h2
  by_cases hll : l1.length = l2.length
  · have hd : ((l1.length : Int) != (l2.length : Int)) = false := by rw [bne_eq_false_iff_eq]; omega
    go_enter Try.func20, Try.ntmps20
    go_wp2
    go_loopw [5] (fun vi wr => ∃ k : Nat, k ≤ l1.length ∧ vi = .int .i64 k ∧ Hid (l1.take k = l2.take k) ∧ Off [] w wr) (fun vi _ => l1.length - (intOf vi).toNat)
    case atStart => exact ⟨0, Nat.zero_le _, rfl, Lib.hid rfl, Off.refl _ _⟩
    case round =>
      obtain ⟨k, hk, rfl, ht, hof⟩ := hrel
      by_cases hlt : k < l1.length
      · obtain ⟨x, rfl, hx⟩ := g1 k hlt
        obtain ⟨y, rfl, hy⟩ := g2 k (by omega)
        have hx1 : wr.cell? (x.add k) = some (.string l1[k]) := (hof.cell (lt_of_cell hx) (by simp)).trans hx
        have hy1 : wr.cell? (y.add k) = some (.string (l2[k]'(by omega))) := (hof.cell (lt_of_cell hy) (by simp)).trans hy
        have t1 := Lib.hid (List.take_succ_eq_append_getElem hlt)
        have t2 := Lib.hid (List.take_succ_eq_append_getElem (show k < l2.length by omega))
        have hne := Lib.hid (show l1[k] ≠ l2[k]'(by omega) → l1 ≠ l2 from fun h e => h (by subst e; rfl))
        have b1 : (k : Int) < (l1.length : Int) := by omega
        have b2 : (k : Int) < (l2.length : Int) := by omega
        clear hx hy g1 g2
        generalize l1[k] = p at *
        generalize l2[k]'_ = q at *
        by_cases hpq : p = q
        · subst hpq
          have hq := beq_yes (show p = p from rfl)
          go_wp2
          go_quiet (fail)
          go_wp2
          go_roundw
          case rel => exact ⟨k + 1, by omega, by go_num, Lib.hid (by rw [t1.out, t2.out, ht.out]), hof.drewN _⟩
          case measure => simp [intOf] <;> omega
        · have hq := beq_no hpq
          go_wp2
          go_quiet (fail)
          go_wp2
          go_ret
          exact ⟨ret_bool (by rw [decide_eq_false (hne.out hpq)]), hof.drewN _⟩
      · obtain rfl : k = l1.length := by omega
        have hE : l1 = l2 := by
          have := ht.out
          rw [List.take_length, hll, List.take_length] at this
          exact this
        go_wp2
        go_ret
        exact ⟨ret_bool (by rw [decide_eq_true hE]), hof⟩
  · have hd : ((l1.length : Int) != (l2.length : Int)) = true := by rw [bne_iff_ne]; omega
    go_enter Try.func20, Try.ntmps20
    go_wp2
    go_ret
    exact ⟨ret_bool (by rw [decide_eq_false (fun e => hll (by rw [e]))]), Off.refl _ _⟩
/-! the statements of layer 4 are awake -/
abbrev ab : ByteArray := ⟨#[97, 98]⟩
def fab : ByteArray := str (frm [97, 98])
theorem fab_size : fab.size = 8 := by unfold fab; rw [str_size]; rfl
theorem ab_of : ofV ab = (fab, 0) := rfl
theorem ab_ok : 1 ≤ ab.size ∧ ab.size ≤ 2048 := by decide
theorem nil_append (x : ByteArray) : (⟨#[]⟩ : ByteArray) ++ x = x := by
  apply ByteArray.ext
  simp [ByteArray.data_append]
theorem feed_a : feedV zero (fab.extract 0 3) = (⟨fab.extract 0 3, false, 0⟩, [], true) := by
  have h : cutV (⟨#[]⟩ ++ fab.extract 0 3) = ([], fab.extract 0 3, 2) := by
    rw [nil_append]
    have hn : nextV (fab.extract 0 3) = (⟨#[]⟩, 0, 2) := by
      unfold fab
      rw [extract_str, List.drop_zero]
      exact next_take [97, 98] (by decide) (by decide) (by decide) 3 (by decide)
    rw [cutV_no _ (by rw [hn]; decide), hn]
  unfold feedV zero
  dsimp only
  rw [h]
  rfl
theorem feed_b : feedV ⟨fab.extract 0 3, false, 0⟩ (fab.extract 3 8 ++ ⟨#[0]⟩) = (⟨⟨#[0]⟩, false, 1⟩, [ab], true) := by
  have h : cutV (fab.extract 0 3 ++ (fab.extract 3 8 ++ ⟨#[0]⟩)) = ([ab], ⟨#[0]⟩, 2) := by
    have e : fab.extract 0 3 ++ (fab.extract 3 8 ++ ⟨#[0]⟩) = str (frm [97, 98] ++ [0]) := by
      rw [← ByteArray.append_assoc, str_append, show str [0] = ⟨#[0]⟩ from rfl, show str (frm [97, 98]) = fab from rfl]
      congr 1
    rw [e, cut_frm [97, 98] [0] (by decide) (by decide) (by decide) (by decide)]
    have h3 : cutV (str [0]) = ([], str [0], 2) := cutV_no _ (by rw [show str [0] = ⟨#[0]⟩ from rfl, next_z]; decide)
    rw [h3]
    rfl
  unfold feedV
  dsimp only
  rw [h]
  rfl
theorem next_00 : nextV ⟨#[0, 0]⟩ = (⟨#[]⟩, 0, 3) := by decide +kernel
theorem feed_c : feedV ⟨⟨#[0]⟩, false, 1⟩ ⟨#[0]⟩ = (⟨⟨#[]⟩, true, 1⟩, [], false) := by
  have h : cutV (⟨#[0]⟩ ++ ⟨#[0]⟩) = ([], ⟨#[0, 0]⟩, 3) := by
    rw [show (⟨#[0]⟩ : ByteArray) ++ ⟨#[0]⟩ = ⟨#[0, 0]⟩ by decide, cutV_no _ (by rw [next_00]; decide), next_00]
  unfold feedV
  dsimp only
  rw [h]
  rfl
theorem cell_keep {w w' : World} {b : Nat} {x : Addr} {v : Value} (h : w.cell? (x.add 0) = some v) (ho : Off [b] w w') (hne : x.block ≠ b) : w'.cell? x = some v := by
  have h1 := (ho.cell (p := x.add 0) (lt_of_cell h) (by rw [add_block]; simpa using hne)).trans h
  simpa [Addr.add] using h1
theorem cell_own {w : World} {base : Nat} {v : Value} {l : List ByteArray} (h : w.ownsRow base 9 1 v l.length (l.map .string)) : ∃ a c, v = .slice a l.length c ∧ ∀ i (h : i < l.length), ∃ x, a = some x ∧ base ≤ x.block ∧ w.cell? (x.add i) = some (.string l[i]) := by
  obtain ⟨a, c, rfl⟩ := own_form h
  refine ⟨a, c, rfl, fun i hi => ?_⟩
  rcases reads_owns h with ⟨h1, h2⟩ | ⟨x, c', hx, hc⟩
  · have : l = [] := by simpa using h2
    subst this
    cases hi
  · injection hx with hx _ _
    subst hx
    refine ⟨x, rfl, (h.lt x.block rfl).1, ?_⟩
    have := hc i (by simpa using hi)
    rw [List.getElem_map] at this
    exact this
set_option maxHeartbeats 1600000 in
theorem awake (w : World) : Calls Try.prog 17 #[] w fun e w' => e = .returned (.bool true) ∧ Off [] w w' := by
  have k1 := Lib.hid (fun w' => frameOf ab w')
  rw [ab_of] at k1
  have kA := Lib.hid (fun b w' h => jFeed b zero (fab.extract 0 3) w' h (by decide) (by rw [ByteArray.size_extract, fab_size]; decide) (by decide))
  rw [feed_a] at kA
  have kL := Lib.hid (fun b w' h => jLeft b ⟨fab.extract 0 3, false, 0⟩ w' h)
  have e3 : (fab.extract 0 3).size = 3 := by rw [ByteArray.size_extract, fab_size]; rfl
  dsimp only at kL
  rw [e3] at kL
  have kB := Lib.hid (fun b w' h => jFeed b ⟨fab.extract 0 3, false, 0⟩ (fab.extract 3 8 ++ ⟨#[0]⟩) w' h (by rw [e3]; decide) (by rw [ByteArray.size_append, ByteArray.size_extract, fab_size]; decide) (by decide))
  rw [feed_b] at kB
  have kC := Lib.hid (fun b w' h => jFeed b ⟨⟨#[0]⟩, false, 1⟩ ⟨#[0]⟩ w' h (by decide) (by decide) (by decide))
  rw [feed_c] at kC
  have hz := fab_size
  have hz8 : (fab.extract 3 8).size + (⟨#[0]⟩ : ByteArray).size ≤ 9223372036854775807 := by rw [ByteArray.size_extract, hz]; decide
  have hab := beq_yes (show ab = ab from rfl)
  clear e3
  generalize fab = F at *
  dsimp only at kA kB kC
  go_enter Try.func17, Try.ntmps17
  go_wp2_with (first
    | (go_at_call 12; refine (k1.out _).mono ?_; rintro e w1 ⟨rfl, ho1⟩)
    | (go_at_call 18; refine (jNew _).mono ?_; rintro e w2 ⟨b, rfl, hb, hj2, ho2⟩)
    | (go_at_call 19; with_reducible refine (kA.out b w2 hj2).mono ?_; rintro e w3 ⟨v3, rfl, hj3, ho3, hown3⟩; obtain ⟨a3, c3, rfl, _⟩ := cell_own hown3)
    | (go_at_call 22; refine (kL.out b w3 hj3).mono ?_; rintro e w' ⟨rfl, rfl⟩)
    | (go_at_call 19; with_reducible refine (kB.out b w3 hj3).mono ?_; rintro e w4 ⟨v4, rfl, hj4, ho4, hown4⟩; obtain ⟨a4, c4, rfl, hg4⟩ := cell_own hown4; obtain ⟨x4, rfl, hx4, hcx⟩ := hg4 0 (by decide)))
  refine (kC.out b w4 hj4).mono ?_
  rintro e w5 ⟨v5, rfl, hj5, ho5, hown5⟩
  obtain ⟨a5, c5, rfl, _⟩ := cell_own hown5
  have hb3 := Blk.lt hj3
  have hx5 := cell_keep (v := .string ab) hcx ho5 (by omega)
  go_wp2_with (first
    | (go_at_call 21; refine (jBad b _ w5 hj5).mono ?_; rintro e w' ⟨rfl, rfl⟩)
    | (go_at_call 23; refine (jSeen b _ w5 hj5).mono ?_; rintro e w' ⟨rfl, rfl⟩))
  go_ret
  exact ⟨rfl, (((ho1.trans ho2 (by simp)).fresh ho3 (by simp; have := ho1.size; omega)).fresh ho4 (by simp; have := ho1.size; omega)).fresh ho5 (by simp; have := ho1.size; omega)⟩
end Go.Proofs.Ytfjkcegdodpgdaa.Jo
