/- All frames of a row of bodies: the contract. -/
import Derived.Test.YtfjkcegdodpgdaaProg
import Derived.Below
import Derived.WalkKit
import Derived.KernelRfl
import Derived.RowKit3
import Derived.Deep.LoopGhost
import Derived.Deep.QuietTactic
import Derived.BigQuiet
import Derived.WideLaws
import Derived.Deep.DeepCutAuto
import Derived.Deep.CutBlock
import Derived.Lib.Hide
import Derived.Laws.BitsLemmas
import Derived.Laws.Bits64
import Derived.Laws.BitsAllLaws
import Derived.IntWalk
import Derived.Outline
import Derived.WalkSpells
import Derived.Test.YtfjkcegdodpgdaaMem
import Derived.Test.YtfjkcegdodpgdaaFr3
import Derived.Test.YtfjkcegdodpgdaaMemS
import Derived.Test.YtfjkcegdodpgdaaBld
import Derived.Test.YtfjkcegdodpgdaaShelf
namespace Go.Proofs.Ytfjkcegdodpgdaa.Fr
open Go.RowKit Go.Proofs.Ytfjkcegdodpgdaa.Mem Go.Proofs.Ytfjkcegdodpgdaa.Pk

theorem then_below {a b c : World} (h : Off [] a b) (k : Below a.heap.size b c) : Off [] a c :=
  ⟨k.os.trans h.os, k.tape.trans h.tape, k.output.trans h.output, Nat.le_trans h.size k.size, fun i hi _ => (k.block i hi).trans (h.block i hi (by simp))⟩
def okB (s : ByteArray) : Bool := decide (1 ≤ s.size) && decide (s.size ≤ 2048)
theorem okB_iff (s : ByteArray) : okB s = true ↔ 1 ≤ s.size ∧ s.size ≤ 2048 := by unfold okB; simp
/-- the frames of a row of bodies -/
def catL (bs : List ByteArray) : List Nat := (bs.map fun b => frm (nums b)).flatten
theorem catL_lt (bs : List ByteArray) : ∀ c ∈ catL bs, c < 256 := by
  intro c hc
  obtain ⟨e, he, hc⟩ := List.mem_flatten.1 hc
  obtain ⟨b, _, rfl⟩ := List.mem_map.1 he
  exact frm_lt _ (nums_lt b) c hc
theorem catL_snoc (bs : List ByteArray) (b : ByteArray) : catL (bs ++ [b]) = catL bs ++ frm (nums b) := by simp [catL]
theorem catL_cons (b : ByteArray) (bs : List ByteArray) : catL (b :: bs) = frm (nums b) ++ catL bs := by simp [catL]
theorem catL_len : ∀ (bs : List ByteArray), bs.all okB = true → (catL bs).length ≤ 2054 * bs.length
  | [], _ => by simp [catL]
  | b :: bs, h => by
    rw [List.all_cons, Bool.and_eq_true] at h
    have := catL_len bs h.2
    have h1 := (okB_iff b).1 h.1
    rw [catL_cons, List.length_append, frm_len, nums_length, List.length_cons]
    omega
def allV (bs : List ByteArray) : ByteArray × Int := if bs.all okB then (str (catL bs), 0) else (⟨#[]⟩, 1)
theorem strCells_str (l : List Nat) : Lib.strCells (str l) = Lib.byteCells (l.map UInt8.ofNat) := by
  simp [Lib.strCells, Lib.byteCells, str]
theorem byteCells_append (a b : List UInt8) : Lib.byteCells (a ++ b) = Lib.byteCells a ++ Lib.byteCells b := by simp [Lib.byteCells]
set_option maxHeartbeats 1600000 in
theorem all (a : Option Addr) (len cap : Nat) (bs : List ByteArray) (w : World) (h : StrsIn w a len cap bs) (hl : len ≤ 1000) :
    Calls Try.prog 27 #[.slice a len cap] w fun e w' => e = .returned (.tuple #[.string (allV bs).1, .int .i64 (allV bs).2]) ∧ Off [] w w' := by
  obtain ⟨rfl, _⟩ := id h
  have HC := Lib.hid h.cells
  clear h
  have hfr := Lib.hid (Lib.fresh_isBuilder 74 5 w)
  go_enter Try.func27, Try.ntmps27
  go_wp2
  have hof0 : Off [] w (w.alloc (.cells #[.pointer none, .slice none 0 0] 74)) := (Off.refl _ _).alloc _
  generalize w.alloc (.cells #[.pointer none, .slice none 0 0] 74) = wa at *
  go_loopw [11] (fun vi wr => ∃ k : Nat, k ≤ bs.length ∧ vi = .int .i64 k ∧ Lib.IsBuilder 74 5 w.heap.size w.heap.size (Lib.byteCells ((catL (bs.take k)).map UInt8.ofNat)) wr ∧ Hid ((bs.take k).all okB = true) ∧ Off [] w wr) (fun vi _ => bs.length - (intOf vi).toNat)
  case atStart => exact ⟨0, Nat.zero_le _, rfl, hfr.out, Lib.hid rfl, hof0⟩
  case round =>
    obtain ⟨k, hk, rfl, hB, hok, hof⟩ := hrel
    clear hfr hof0
    have hlen := catL_len (bs.take k) hok.out
    rw [List.length_take] at hlen
    by_cases hlt : k < bs.length
    · obtain ⟨x, rfl, hx0⟩ := HC.out k hlt
      have hx : wr.cell? (x.add k) = some (.string bs[k]) := (hof.cell (lt_of_cell hx0) (by simp)).trans hx0
      clear hx0
      have htk := Lib.hid (show bs.take (k + 1) = bs.take k ++ [bs[k]] from List.take_succ_eq_append_getElem hlt)
      have hno := Lib.hid (show okB bs[k] = false → bs.all okB = false from fun hf => by
        rw [← Bool.not_eq_true, List.all_eq_true]
        intro h'
        have := h' _ (List.getElem_mem hlt)
        rw [hf] at this
        cases this)
      generalize bs[k] = s at *
      have kf := Lib.hid (fun w' => frameOf s w')
      by_cases hs : 1 ≤ s.size ∧ s.size ≤ 2048
      · rw [ofV_yes s hs] at kf
        have hz := ofV_size s
        have kw := Lib.hid (fun w' h hb => Bld.writeString w.heap.size w.heap.size (Lib.byteCells ((catL (bs.take k)).map UInt8.ofNat)) (str (frm (nums s))) w' h (by simp [Lib.byteCells]; omega) hb)
        have hcat := Lib.hid (show Lib.byteCells ((catL (bs.take k)).map UInt8.ofNat) ++ Lib.strCells (str (frm (nums s))) = Lib.byteCells ((catL (bs.take (k + 1))).map UInt8.ofNat) by
          rw [htk.out, catL_snoc, List.map_append, byteCells_append, strCells_str])
        have hok2 := Lib.hid (show (bs.take (k + 1)).all okB = true by rw [htk.out, List.all_append, hok.out]; simp; exact (okB_iff s).2 hs)
        clear hlen hz
        generalize str (frm (nums s)) = S at *
        go_wp2_with (first
          | (go_at_call 12; refine (kf.out _).mono ?_; rintro e w3 ⟨rfl, ho3⟩; have hB3 := Bld.off hB ho3; have hof3 := hof.trans ho3 (by simp))
          | (go_at_call 37; refine (kw.out w3 hB3 hof3.size).mono ?_; rintro e w4 ⟨rfl, hB4, hb4⟩))
        go_roundw
        case rel => exact ⟨k + 1, by omega, by go_num, by rw [← hcat.out]; exact .inr hB4, hok2, then_below hof3 hb4⟩
        case measure => simp [intOf] <;> omega
      · rw [ofV_no s hs] at kf
        have hav : allV bs = (⟨#[]⟩, 1) := by
          unfold allV
          rw [hno.out (by rw [← Bool.not_eq_true, okB_iff]; exact hs)]
          rfl
        have HAV := Lib.hid hav
        clear hav
        go_wp2_with (go_at_call 12; refine (kf.out _).mono ?_; rintro e w3 ⟨rfl, ho3⟩)
        go_ret2
        rw [HAV.out]
        exact ⟨rfl, hof.trans ho3 (by simp)⟩
    · obtain rfl : k = bs.length := by omega
      have hok' := hok.out
      rw [List.take_length] at hB hok'
      have hav : allV bs = (str (catL bs), 0) := by unfold allV; rw [if_pos hok']
      have ks := Try.Builder_String_any w.heap.size w.heap.size ((catL bs).map UInt8.ofNat) wr hB hof.size
      have HAV := Lib.hid hav
      clear hav
      go_wp2_with (go_at_call 38; refine ks.mono ?_; rintro e w4 ⟨rfl, hb4⟩)
      go_ret2
      rw [HAV.out]
      exact ⟨rfl, then_below hof hb4⟩
end Go.Proofs.Ytfjkcegdodpgdaa.Fr
