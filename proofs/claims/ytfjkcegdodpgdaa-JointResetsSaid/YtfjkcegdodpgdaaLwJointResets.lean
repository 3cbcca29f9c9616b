/- Behind a Reset a joint is as new: the walk of the statement. -/
import Derived.Test.YtfjkcegdodpgdaaProg
import Derived.Below
import Derived.WalkKit
import Derived.KernelRfl
import Derived.RowKit3
import Derived.Deep.LoopGhost
import Derived.Deep.QuietTactic
import Derived.BigQuiet
import Derived.WideLaws
import Derived.Deep.DeepCutAuto
import Derived.Deep.CutBlock
import Derived.Lib.Hide
import Derived.Laws.BitsLemmas
import Derived.Laws.Bits64
import Derived.Laws.BitsAllLaws
import Derived.IntWalk
import Derived.Outline
import Derived.WalkSpells
import Derived.Test.YtfjkcegdodpgdaaMem
import Derived.Test.YtfjkcegdodpgdaaJoM
namespace Go.Proofs.Ytfjkcegdodpgdaa.Jo
open Go.RowKit Go.Proofs.Ytfjkcegdodpgdaa.Mem Go.Proofs.Ytfjkcegdodpgdaa.Pk Go.Proofs.Ytfjkcegdodpgdaa.Fr

theorem reads_strs {w : World} {base : Nat} {v : Value} {l : List ByteArray} (h : w.ownsRow base 9 1 v l.length (l.map .string)) : Reads w v (l.map .string) := reads_owns h
theorem jBad0 (b : Nat) (w : World) (h : JAt w b zero) : Calls Try.prog 21 #[.pointer (some ⟨b, 0, none⟩)] w fun e w' => e = .returned (.bool false) ∧ w = w' := jBad b zero w h
theorem jLeft0 (b : Nat) (w : World) (h : JAt w b zero) : Calls Try.prog 22 #[.pointer (some ⟨b, 0, none⟩)] w fun e w' => e = .returned (.int .i64 0) ∧ w = w' := jLeft b zero w h
theorem jSeen0 (b : Nat) (w : World) (h : JAt w b zero) : Calls Try.prog 23 #[.pointer (some ⟨b, 0, none⟩)] w fun e w' => e = .returned (.int .i64 0) ∧ w = w' := jSeen b zero w h
set_option maxHeartbeats 3200000 in
theorem resets_main (a c : ByteArray) (w : World) (ha : a.size ≤ 2048) (hc : c.size ≤ 2048) :
    Calls Try.prog 8 #[.string a, .string c] w fun e w' => e = .returned (.bool true) ∧ Below w.heap.size w w' := by
  have d1 : decide ((2048 : Int) < (a.size : Int)) = false := decide_eq_false (by omega)
  have d2 : decide ((2048 : Int) < (c.size : Int)) = false := decide_eq_false (by omega)
  have kA := Lib.hid (fun b w' h => jFeed b zero a w' h (by decide) (by omega) (by decide))
  have kC := Lib.hid (fun b w' h => jFeed b zero c w' h (by decide) (by omega) (by decide))
  have hzl := (feed_size zero c).2.2
  have hl : (feedV zero c).2.1.length ≤ 5000 := Nat.le_trans hzl (by show 0 + c.size ≤ _; omega)
  clear hzl
  generalize feedV zero a = qa at *
  generalize feedV zero c = qc at *
  obtain ⟨sa, la, oka⟩ := qa
  obtain ⟨⟨rl, rb, rs⟩, lc, okc⟩ := qc
  dsimp only at kA kC hl
  have hbb : (okc == okc) = true := by simp
  have hbb2 : (rb == rb) = true := by simp
  go_enter Try.func8, Try.ntmps8
  go_wp2_with (first
    | (go_at_call 17; refine (awake _).mono ?_; rintro e w1 ⟨rfl, ho1⟩)
    | (go_at_call 18; (with_reducible refine (jNew w1).mono ?_); rintro e w2 ⟨b, rfl, hb, hj2, ho2⟩)
    | (go_at_call 19; (with_reducible refine (kA.out b w2 hj2).mono ?_); rintro e w3 ⟨v3, rfl, hj3, ho3, hown3⟩)
    | (go_at_call 24; refine (jReset b _ w3 hj3).mono ?_; rintro e w4 ⟨rfl, hj4, ho4⟩)
    | (go_at_call 21; (with_reducible refine (jBad0 b w4 hj4).mono ?_); rintro e w' ⟨rfl, rfl⟩)
    | (go_at_call 22; (with_reducible refine (jLeft0 b w4 hj4).mono ?_); rintro e w' ⟨rfl, rfl⟩)
    | (go_at_call 23; (with_reducible refine (jSeen0 b w4 hj4).mono ?_); rintro e w' ⟨rfl, rfl⟩)
    | (go_at_call 18; (with_reducible refine (jNew w4).mono ?_); rintro e w5 ⟨b2, rfl, hb2, hk5, ho5⟩; have hbl4 := Blk.lt hj4; have hbne : b2 ≠ b := (by omega); have hj5 : JAt w5 b zero := ho5.blk hj4 (by simp))
    | (go_at_call 19; (with_reducible refine (kC.out b w5 hj5).mono ?_); rintro e w6 ⟨v6, rfl, hj6, ho6, hown6⟩; obtain ⟨a6, c6, rfl, _⟩ := cell_own hown6; have hk6 : JAt w6 b2 zero := ho6.blk hk5 (by simpa using hbne))
    | (go_at_call 19; (with_reducible refine (kC.out b2 w6 hk6).mono ?_); rintro e w7 ⟨v7, rfl, hk7, ho7, hown7⟩; obtain ⟨a7, c7, rfl, _⟩ := cell_own hown7; have hj7 : JAt w7 b _ := ho7.blk hj6 (by simpa using hbne.symm); have hb2l := Blk.lt hk5; have hr6 := owns_off hown6 ho7 (fun k hk => by have := (hown6.lt k (by simpa using hk)).1; simp; omega))
    | (go_at_call 20; refine (same _ _ lc lc w7 (reads_strs hr6) (reads_strs hown7) (by omega)).mono ?_; rintro e w8 ⟨rfl, ho8⟩; rw [decide_eq_true (show lc = lc from rfl)]; have hj8 : JAt w8 b _ := ho8.blk hj7 (by simp); have hk8 : JAt w8 b2 _ := ho8.blk hk7 (by simp))
    | (go_at_call 21; (with_reducible refine (jBad b _ w8 hj8).mono ?_); rintro e w' ⟨rfl, rfl⟩)
    | (go_at_call 22; (with_reducible refine (jLeft b _ w8 hj8).mono ?_); rintro e w' ⟨rfl, rfl⟩)
    | (go_at_call 23; (with_reducible refine (jSeen b _ w8 hj8).mono ?_); rintro e w' ⟨rfl, rfl⟩)
    | (go_at_call 21; (with_reducible refine (jBad b2 _ w8 hk8).mono ?_); rintro e w' ⟨rfl, rfl⟩)
    | (go_at_call 22; (with_reducible refine (jLeft b2 _ w8 hk8).mono ?_); rintro e w' ⟨rfl, rfl⟩)
    | (go_at_call 23; (with_reducible refine (jSeen b2 _ w8 hk8).mono ?_); rintro e w' ⟨rfl, rfl⟩))
  go_ret
  have hs1 := ho1.size
  have hs2 := ho2.size
  have hs3 := ho3.size
  have hs4 := ho4.size
  exact ⟨rfl, (((((((ho1.trans ho2 (by simp)).fresh ho3 (by simp; omega)).fresh ho4 (by simp; omega)).trans ho5 (by simp)).fresh ho6 (by simp; omega)).fresh ho7 (by simp; omega)).trans ho8 (by simp)).to_below⟩
theorem jointResets (a c : ByteArray) (w : World) (_ : a.size ≤ 140737488351232) (_ : c.size ≤ 140737488351232) :
    Calls Try.prog 8 #[.string a, .string c] w fun e w' => e = .returned (.bool true) ∧ Below w.heap.size w w' := by
  by_cases ha : a.size ≤ 2048
  · by_cases hc : c.size ≤ 2048
    · exact resets_main a c w ha hc
    · have d1 : decide ((2048 : Int) < (a.size : Int)) = false := decide_eq_false (by omega)
      have d2 : decide ((2048 : Int) < (c.size : Int)) = true := decide_eq_true (by omega)
      go_enter Try.func8, Try.ntmps8
      go_wp2_with (go_at_call 17; refine (awake _).mono ?_; rintro e w1 ⟨rfl, ho1⟩)
      go_ret
      exact ⟨rfl, ho1.to_below⟩
  · have d1 : decide ((2048 : Int) < (a.size : Int)) = true := decide_eq_true (by omega)
    go_enter Try.func8, Try.ntmps8
    go_wp2_with (go_at_call 17; refine (awake _).mono ?_; rintro e w1 ⟨rfl, ho1⟩)
    go_ret
    exact ⟨rfl, ho1.to_below⟩
end Go.Proofs.Ytfjkcegdodpgdaa.Jo
