/- Words that the walks of layer 2's laws share. -/
import Derived.Test.YtpofjeenednjcaaProg
import Derived.Below
import Derived.WalkKit
import Derived.KernelRfl
import Derived.RowKit3
import Derived.Deep.LoopGhost
import Derived.Deep.QuietTactic
import Derived.BigQuiet
import Derived.WideLaws
import Derived.Deep.DeepCutAuto
import Derived.Deep.CutBlock
import Derived.Lib.Hide
import Derived.Laws.BitsLemmas
import Derived.Laws.Bits64
import Derived.Laws.BitsAllLaws
import Derived.IntWalk
import Derived.Outline
import Derived.WalkSpells
import Derived.Test.YtpofjeenednjcaaMem
import Derived.Test.YtpofjeenednjcaaPkA
import Derived.RegionTactic
import Derived.Deep.RegionWith
import Derived.Deep.RegionHeld3
namespace Go.Proofs.Ytpofjeenednjcaa.Mem
open Go.RowKit
theorem Off.two {a b : Nat} {w x y : World} (h : Off [a] w x) (k : Off [b] x y) : Off [a, b] w y :=
  (h.mono (T := [a, b]) fun i _ hi => by simp at hi; simp [hi]).trans k fun i _ hi => by simp at hi; simp [hi]
theorem Off.two' {a b : Nat} {w x y : World} (h : Off [b] w x) (k : Off [a] x y) : Off [a, b] w y :=
  (h.mono (T := [a, b]) fun i _ hi => by simp at hi; simp [hi]).trans k fun i _ hi => by simp at hi; simp [hi]
theorem Off.of_drew {S : List Nat} {w x : World} (h : Off S w.drew x) : Off S w x := ⟨h.os, h.tape, h.output, h.size, h.block⟩
theorem Off.of_drewN {S : List Nat} {w x : World} {n : Nat} (h : Off S (w.drewN n) x) : Off S w x := ⟨h.os, h.tape, h.output, h.size, h.block⟩
theorem Blk.of_drewN {w : World} {n b : Nat} {cs : Array Value} {t : TypeId} (h : Blk (w.drewN n) b cs t) : Blk w b cs t := h
theorem keep1 {w : World} {b : Nat} {cs : Array Value} {t : TypeId} (i : Nat) (v : Value) (h : Blk w b cs t) (hv : cs[i]? = some v) : Blk w b cs t ∧ w.cell? ⟨b, i, none⟩ = some v := ⟨h, h.cell i v hv⟩
theorem quiet_mine {P : Program} {f : FuncId} {args : Array Value} {w : World} {n : Nat} {v : Value}
    (h : Calls P f args (w.drewN n) fun e w' => e = .returned v ∧ w.drewN n = w') : Calls P f args (w.drewN n) fun e w'' => e = .returned v ∧ ∃ m, w'' = w.drewN m :=
  h.mono fun _ _ ⟨he, hm⟩ => ⟨he, n, hm.symm⟩
end Go.Proofs.Ytpofjeenednjcaa.Mem
namespace Go.Proofs.Ytpofjeenednjcaa.Pk
open Go.RowKit Go.Proofs.Ytpofjeenednjcaa.Mem
/-- a deed's cells -/
def actA (a : ActV) : Array Value := #[.int .i64 a.kind, .int .i64 a.wd, .int .i64 a.n, .int .i64 a.m, .string a.s]
theorem inNumV_size (t : ByteArray) (bad : Bool) (n : Int) {m : Nat} (h : t.size ≤ m) : (inNumV t bad n).2.1.size ≤ m := by
  unfold inNumV
  split
  · show (t.extract _ _).size ≤ m
    rw [ByteArray.size_extract]
    omega
  · exact h
theorem empty_size (s : ByteArray) : s.toList.isEmpty = ((s.size : Int) == 0) := by
  have e : s.toList.length = s.size := by rw [ByteArray.toList_eq, Array.length_toList]; rfl
  rcases h : s.toList with _ | ⟨x, l⟩
  · rw [h] at e
    rw [← e]
    rfl
  · rw [h] at e
    have : ((s.size : Int) == 0) = false := by
      rw [beq_eq_false_iff_ne]
      simp at e
      omega
    rw [this]
    rfl
theorem inTextV_size (t : ByteArray) (bad : Bool) (n : Int) {m : Nat} (h : t.size ≤ m) : (inTextV t bad n).2.1.size ≤ m := by
  unfold inTextV
  split
  · show (t.extract _ _).size ≤ m
    rw [ByteArray.size_extract]
    omega
  · exact h
end Go.Proofs.Ytpofjeenednjcaa.Pk
