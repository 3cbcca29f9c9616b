/- Layer 10: words of the laws. -/
import Derived.Test.YtfhhfmkfkoemjaaProg
import Derived.Below
import Derived.WalkKit
import Derived.KernelRfl
import Derived.RowKit3
import Derived.Deep.LoopGhost
import Derived.Deep.QuietTactic
import Derived.BigQuiet
import Derived.WideLaws
import Derived.Deep.DeepCutAuto
import Derived.Deep.CutBlock
import Derived.Lib.Hide
import Derived.Laws.BitsLemmas
import Derived.Laws.Bits64
import Derived.Laws.BitsAllLaws
import Derived.IntWalk
import Derived.Outline
import Derived.WalkSpells
import Derived.Test.YtfhhfmkfkoemjaaMem
import Derived.Test.YtfhhfmkfkoemjaaKy4
namespace Go.Proofs.Ytfhhfmkfkoemjaa.Se6
open Go.RowKit Go.Proofs.Ytfhhfmkfkoemjaa.Mem Go.Proofs.Ytfhhfmkfkoemjaa.Reg Go.Proofs.Ytfhhfmkfkoemjaa.Pk Go.Proofs.Ytfhhfmkfkoemjaa.Si
set_option linter.unusedVariables false
set_option linter.unusedSimpArgs false

/-- the configuration that keys made of c have -/
def mkC (c : Cfg) : Cfg := if (checkV c != 0) = true then (⟨0, 0, 0, 0, 0, 0, 0, 0, 0, 0, 0, 0, 0, 0, 0, 0, 0, 0⟩ : Cfg) else c
def mkR (c : Cfg) : Int := if (checkV c != 0) = true then 0 else c.keys
theorem keys_room {c : Cfg} (h : (checkV c != 0) = false) : (if c.keys < 1 ∨ 65536 < c.keys then 0 else c.keys) = c.keys := by
  have h1 : cfgOk c = true := by
    cases hc : cfgOk c with
    | true => rfl
    | false => rw [checkV_bad hc] at h; exact absurd h (by decide)
  unfold cfgOk at h1
  simp at h1
  rw [if_neg (by omega)]
theorem makeC (c : Cfg) (w : World) : Calls Try.prog 47 #[.agg (cA c)] w fun e w' => e = .returned (.agg (kA (mkC c) (mkR c) (.slice none ([] : List PairV).length 0))) ∧ Off [] w w' := by
  rcases Bool.eq_false_or_eq_true (checkV c != 0) with q | q
  · have h := makeNo c w q
    have e1 : mkC c = (⟨0, 0, 0, 0, 0, 0, 0, 0, 0, 0, 0, 0, 0, 0, 0, 0, 0, 0⟩ : Cfg) := by unfold mkC; rw [if_pos q]
    have e2 : mkR c = 0 := by unfold mkR; rw [if_pos q]
    rw [e1, e2]
    exact h
  · have h := makeYes c w q (keys_room q)
    have e1 : mkC c = c := by unfold mkC; rw [if_neg (by rw [q]; decide)]
    have e2 : mkR c = c.keys := by unfold mkR; rw [if_neg (by rw [q]; decide)]
    rw [e1, e2]
    exact h
structure ActK where
  kind : Int
  now : Int
  who : Int
  key : Int
  body : ByteArray
def actRow (x : ActK) : List Value := [.int .i64 x.kind, .int .i64 x.now, .int .i64 x.who, .int .u64 x.key, .string x.body]
/-- what a With leaves -/
def addV (c : Cfg) (room : Int) (ps : List PairV) (now who key : Int) (body ans : ByteArray) : List PairV := (withV room (nameV who key) ⟨key / 4294967296, body, ans⟩ (ps.filter (keepB c now))).1
theorem sorted_add {c : Cfg} {room : Int} {ps : List PairV} (hs : Hid (Sorted ps)) (now who key : Int) (body ans : ByteArray) : Hid (Sorted (withV room (nameV who key) ⟨key / 4294967296, body, ans⟩ (ps.filter (keepB c now))).1) := Lib.hid (sorted_with (sorted_keep hs.out _) _ _ _)
theorem few_with (room : Int) (k : KeyV) (v : EntryV) (ps : List PairV) : (withV room k v ps).1.length ≤ ps.length + 1 := by
  unfold withV
  split
  · simp
  · split
    · simp
    · unfold insAt; simp; omega
theorem few_add {c : Cfg} {room : Int} {ps : List PairV} {i : Nat} (h : ps.length ≤ i) (now who key : Int) (body ans : ByteArray) : (withV room (nameV who key) ⟨key / 4294967296, body, ans⟩ (ps.filter (keepB c now))).1.length ≤ i + 1 :=
  Nat.le_trans (few_with ..) (Nat.succ_le_succ (Nat.le_trans (List.length_filter_le _ _) h))
theorem tyhoistwaylaw10_Act : TyI Try.prog 87 5 true [.int .i64 0, .int .i64 0, .int .i64 0, .int .u64 0, .string ⟨#[]⟩] := ⟨by kernel_rfl, by kernel_rfl, by kernel_rfl⟩
theorem tyuint64 : TyI Try.prog 75 1 false [.int .u64 0] := ⟨by kernel_rfl, by kernel_rfl, by kernel_rfl⟩
theorem elAct : ElI Try.prog 79 87 5 48 := ElI.of (by kernel_rfl) (by kernel_rfl) (by decide)
end Go.Proofs.Ytfhhfmkfkoemjaa.Se6
