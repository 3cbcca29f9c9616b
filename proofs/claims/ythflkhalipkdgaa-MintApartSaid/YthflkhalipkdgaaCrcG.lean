/- Contracts of crc.Of and crc.Is, of the reference, and of what is fixed by number. -/
import Derived.Test.YthflkhalipkdgaaProg
import Derived.Below
import Derived.WalkKit
import Derived.KernelRfl
import Derived.RowKit3
import Derived.Deep.LoopGhost
import Derived.Deep.QuietTactic
import Derived.BigQuiet
import Derived.WideLaws
import Derived.Deep.DeepCutAuto
import Derived.Deep.CutBlock
import Derived.Lib.Hide
import Derived.Laws.BitsLemmas
import Derived.Laws.Bits64
import Derived.Laws.BitsAllLaws
import Derived.IntWalk
import Derived.Outline
import Derived.WalkSpells
import Derived.Test.YthflkhalipkdgaaMem
import Derived.Test.YthflkhalipkdgaaCrcF
namespace Go.Proofs.Ythflkhalipkdgaa.CrcF
set_option maxRecDepth 20000
set_option linter.unusedVariables false
set_option linter.unusedSimpArgs false
open Go.RowKit Go.Proofs.Ythflkhalipkdgaa Go.Proofs.Ythflkhalipkdgaa.Mem

/-- all bytes of many texts -/
def flat : List ByteArray → List Nat
  | [] => []
  | s :: l => nums s ++ flat l
theorem flat_lt : ∀ (l : List ByteArray), ∀ c ∈ flat l, c < 256
  | [], c, h => by simp [flat] at h
  | s :: l, c, h => by
    simp only [flat, List.mem_append] at h
    exact h.elim (nums_lt s c) (flat_lt l c)
theorem flat_append : ∀ (a b : List ByteArray), flat (a ++ b) = flat a ++ flat b
  | [], _ => rfl
  | s :: a, b => by simp [flat, flat_append a b]
theorem flat_take (l : List ByteArray) (k : Nat) (h : k < l.length) : flat (l.take (k + 1)) = flat (l.take k) ++ nums l[k] := by
  rw [List.take_succ_eq_append_getElem h, flat_append]
  simp [flat]

/-- a slice at x reads as these texts -/
def StrsAt (w : World) (x : Addr) (l : List ByteArray) : Prop := ∀ (i : Nat) (h : i < l.length), w.cell? (x.add i) = some (.string l[i])

theorem of_any (x : Addr) (l : List ByteArray) (c : Nat) (hl : l.length ≤ 140737488351232) (hs : ∀ s ∈ l, s.size ≤ 140737488351232) (w : World) (h : StrsAt w x l) :
    Calls Try.prog 86 #[.slice (some x) l.length c] w fun e w' => e = .returned (.int .u32 ((Crc.crc (flat l) : Nat) : Int)) ∧ w = w' := by
  have H := Lib.hid h
  clear h
  have Hs := Lib.hid hs
  clear hs
  go_enter Try.func86, Try.ntmps86
  go_wp2
  go_loop [3, 8] (fun t i => ∃ k : Nat, k ≤ l.length ∧ i = .int .i64 k ∧ t = .int .u32 ((Crc.crc (flat (l.take k)) : Nat) : Int)) (fun _ i => l.length - (intOf i).toNat)
  case atStart => exact ⟨0, Nat.zero_le _, rfl, by simp [flat, Crc.crc_nil]⟩
  case round =>
    obtain ⟨k, hk, rfl, rfl⟩ := hrel
    by_cases hlt : k < l.length
    · have hc := H.out k hlt
      have hsz := Hs.out _ (List.getElem_mem hlt)
      have hsum := Crc.crc_lt (flat (l.take k)) (flat_lt _)
      have HN := Lib.hid (show Crc.more (Crc.crc (flat (l.take k))) (nums l[k]) = Crc.crc (flat (l.take (k + 1))) by rw [Crc.more_crc, flat_take l k hlt])
      generalize l[k] = s at *
      go_wp2_with (go_at_call 99; refine (more _ _ hsum hsz _).mono ?_; rintro e w' ⟨rfl, rfl⟩)
      go_round
      case rel => exact ⟨k + 1, by omega, by go_num, by rw [HN.out]⟩
      case measure => simp [intOf]; omega
    · obtain rfl : k = l.length := by omega
      go_wp2
      go_ret
      exact ⟨ret_int (by first | rfl | rw [List.take_length]), rfl⟩
theorem of_nil (c : Nat) (w : World) :
    Calls Try.prog 86 #[.slice none 0 c] w fun e w' => e = .returned (.int .u32 0) ∧ w = w' := by
  go_enter Try.func86, Try.ntmps86
  go_wp2
  go_loop [3, 8] (fun t i => i = .int .i64 0 ∧ t = .int .u32 0) (fun _ i => (intOf i).toNat)
  case atStart => exact ⟨rfl, rfl⟩
  case round =>
    obtain ⟨rfl, rfl⟩ := hrel
    go_wp2
    go_ret
    exact ⟨rfl, rfl⟩
theorem of_reads (v : Value) (l : List ByteArray) (hl : l.length ≤ 140737488351232) (hs : ∀ s ∈ l, s.size ≤ 140737488351232) (w : World) (h : Reads w v (l.map .string)) :
    Calls Try.prog 86 #[v] w fun e w' => e = .returned (.int .u32 ((Crc.crc (flat l) : Nat) : Int)) ∧ w = w' := by
  rcases h with ⟨rfl, hn⟩ | ⟨x, c, rfl, hc⟩
  · obtain rfl : l = [] := by simpa using hn
    exact of_nil 0 w
  · rw [List.length_map]
    exact of_any x l c hl hs w fun i hi => by rw [hc i (by simpa using hi)]; simp
/-- of one text, made at the call -/
theorem of_one (s : ByteArray) (x : Addr) (c : Nat) (hs : s.size ≤ 140737488351232) (w : World) (h : w.cell? (x.add 0) = some (.string s)) :
    Calls Try.prog 86 #[.slice (some x) 1 c] w fun e w' => e = .returned (.int .u32 ((Crc.crc (nums s) : Nat) : Int)) ∧ w = w' := by
  have h1 := of_any x [s] c (by simp) (by simpa using hs) w (by
    intro i hi
    obtain rfl : i = 0 := by simpa using hi
    exact h)
  simpa [flat] using h1
theorem of_blk (s : ByteArray) (n : Nat) (w : World) (hb : Blk w n #[.string s] 9) (hs : s.size ≤ 140737488351232) :
    Calls Try.prog 86 #[.slice (some ⟨n, 0, none⟩) 1 1] w fun e w' => e = .returned (.int .u32 ((Crc.crc (nums s) : Nat) : Int)) ∧ w = w' :=
  of_one s ⟨n, 0, none⟩ 1 hs _ (hb.cell 0 _ rfl)
theorem of_new1 (s : ByteArray) (hs : s.size ≤ 140737488351232) (n : Nat) (w : World) (hn : n = w.heap.size) :
    Calls Try.prog 86 #[.slice (some ⟨n, 0, none⟩) 1 1] (w.alloc (.cells #[.string s] 9)) fun e w' => e = .returned (.int .u32 ((Crc.crc (nums s) : Nat) : Int)) ∧ w.alloc (.cells #[.string s] 9) = w' := by
  subst hn
  exact of_one s ⟨w.heap.size, 0, none⟩ 1 hs _ ((blk_new w _ _).cell 0 _ rfl)
theorem of_new3 (s t u : ByteArray) (hs : s.size ≤ 140737488351232) (ht : t.size ≤ 140737488351232) (hu : u.size ≤ 140737488351232) (n : Nat) (w : World) (hn : n = w.heap.size) :
    Calls Try.prog 86 #[.slice (some ⟨n, 0, none⟩) 3 3] (w.alloc (.cells #[.string s, .string t, .string u] 9)) fun e w' => e = .returned (.int .u32 ((Crc.crc (nums s ++ nums t ++ nums u) : Nat) : Int)) ∧ w.alloc (.cells #[.string s, .string t, .string u] 9) = w' := by
  subst hn
  have h := of_any ⟨w.heap.size, 0, none⟩ [s, t, u] 3 (by simp) (by simp; exact ⟨hs, ht, hu⟩) (w.alloc (.cells #[.string s, .string t, .string u] 9)) (by
    intro i hi
    simp at hi
    have hb := blk_new w #[.string s, .string t, .string u] 9
    rcases i with _ | _ | _ | i
    · exact hb.cell 0 _ rfl
    · exact hb.cell 1 _ rfl
    · exact hb.cell 2 _ rfl
    · omega)
  simpa [flat] using h
end Go.Proofs.Ythflkhalipkdgaa.CrcF
