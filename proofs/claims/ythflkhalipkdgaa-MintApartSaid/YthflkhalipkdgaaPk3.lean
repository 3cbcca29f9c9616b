/- Contracts of the functions of layer 2: texts that are written, and what was written. -/
import Derived.Test.YthflkhalipkdgaaProg
import Derived.Below
import Derived.WalkKit
import Derived.KernelRfl
import Derived.RowKit3
import Derived.Deep.LoopGhost
import Derived.Deep.QuietTactic
import Derived.BigQuiet
import Derived.WideLaws
import Derived.Deep.DeepCutAuto
import Derived.Deep.CutBlock
import Derived.Lib.Hide
import Derived.Laws.BitsLemmas
import Derived.Laws.Bits64
import Derived.Laws.BitsAllLaws
import Derived.IntWalk
import Derived.Outline
import Derived.WalkSpells
import Derived.Test.YthflkhalipkdgaaMem
import Derived.OwnWalk
import Derived.Lib.AppendStr
import Derived.Laws.BytesArg
import Derived.Test.YthflkhalipkdgaaPk2
namespace Go.Proofs.Ythflkhalipkdgaa.Pk
set_option linter.unusedVariables false
set_option linter.unusedSimpArgs false
open Go.RowKit Go.Proofs.Ythflkhalipkdgaa.Mem
set_option maxRecDepth 20000

section
variable {P : Program} (w : World)
/-- a text's bytes behind a row of the call's own: it goes on in its block, or in a new one -/
theorem run_append_text (t u ty e : TypeId) (i : TypeInfo) (ht : P.underlying t = some (.slice e)) (hu : P.underlying u = some .string) (hi : P.info? e = some i) (hz : i.zero = some (.int .u8 0))
    (hsize : i.size = 1) (hby : i.bytes = 1) (v : Value) (n : Nat) (xs : List Value) (hown : w.ownsRow 0 e 1 v n xs) (s : ByteArray) (h63 : n + s.size ≤ maxLen) (hbytes : n + s.size ≤ 140737488355328) :
    ∃ v' w', (Builtin.append_ #[t, u] ty #[v, .string s]).run P w = .ok v' w' ∧ w'.ownsRow 0 e 1 v' (n + s.size) (xs ++ Lib.strCells s) ∧ w.grownBy w' v.ownBlock ∧ Goes w v v' := by
  obtain ⟨v', w', hr, h2, h3, h4⟩ := Lib.run_append_own_string (P := P) w 0 t u ty e i ht hu hi hz hsize hby v n xs hown s h63 hbytes (Nat.zero_le _)
  refine ⟨v', w', hr, h2, h3, ?_⟩
  have hm : n + s.size ≤ 9223372036854775807 := by simp only [maxLen] at h63; omega
  rcases hown.2 with ⟨rfl, rfl⟩ | ⟨g, cap, cur, rfl, hbg, hg, hnc, hcm, hcs, htake⟩
  · by_cases h0 : s.size = 0
    · exact .inl (by rw [h4.2 ⟨rfl, h0⟩])
    · have hq := run_append_nil_string (P := P) w t u ty e i (.int .u8 0) ht hu hi hz s (by omega) (by omega) (by rw [hby]; omega)
      rw [hr] at hq
      injection hq with hv hw
      exact .inr ⟨w.heap.size, by rw [hv]; rfl, Nat.le_refl _⟩
  · by_cases hroom : n + s.size ≤ cap
    · have hq := Lib.run_append_room_string (P := P) w t u ty e i ht hu hi hsize g n cap cur hg s hroom (by rw [hcs]; omega)
      rw [hr] at hq
      injection hq with hv hw
      exact .inl (by rw [hv]; rfl)
    · have holds : ∀ j u, xs[j]? = some u → w.cell? ((⟨g, 0, none⟩ : Addr).add j) = some u := hown.cells (g := g) rfl
      have hq := Lib.run_append_grow_string (P := P) w t u ty e i (.int .u8 0) ht hu hi hz ⟨g, 0, none⟩ n cap xs (by rw [hsize]; exact hown.1) holds s (by omega) (by omega) (by rw [hby]; exact growslice_fits (by omega) (by omega))
      rw [hr] at hq
      injection hq with hv hw
      exact .inr ⟨w.heap.size, by rw [hv]; rfl, Nat.le_refl _⟩
theorem wpList_append_text {ops : Array Oper} {rest : List Oper} {o : Oper} {a : Act} {Q : Exit → Act → World → Prop} (hgd : o.guard = none) (sl x : Operand) (t u : TypeId)
    (ho : o.op = .call { callee := .builtin .append, args := #[sl, x], argTypes := #[t, u] })
    (e : TypeId) (i : TypeInfo) (ht : P.underlying t = some (.slice e)) (hu : P.underlying u = some .string) (hi : P.info? e = some i) (hz : i.zero = some (.int .u8 0)) (hsize : i.size = 1) (hby : i.bytes = 1)
    (v : Value) (n : Nat) (xs : List Value) (hs : a.eval sl = v) (hown : w.ownsRow 0 e 1 v n xs) (s : ByteArray) (hx : a.eval x = .string s) (h63 : n + s.size ≤ maxLen) (hbytes : n + s.size ≤ 140737488355328)
    (h : ∀ v' w', w'.ownsRow 0 e 1 v' (n + s.size) (xs ++ Lib.strCells s) → w.grownBy w' v.ownBlock → Goes w v v' → wpList P ops Q rest (a.put o.dst v') w') : wpList P ops Q (o :: rest) a w := by
  refine wpList_plain hgd fun K hK => ?_
  obtain ⟨v', w', hr, h2, h3, h4⟩ := run_append_text (P := P) w t u o.type e i ht hu hi hz hsize hby v n xs hown s h63 hbytes
  unfold Oper.wp execOp
  simp only [ho, resolve, invoke, builtin, Sem.run_bind, Sem.run_pure, Result.andThen_ok, List.map_toArray, List.map_cons, List.map_nil, hs, hx, hr]
  exact hK _ _ (h v' w' h2 h3 h4)
end

theorem owns_form {w : World} {base : Nat} {e : TypeId} {v : Value} {n : Nat} {xs : List Value} (h : w.ownsRow base e 1 v n xs) : ∃ a c, v = .slice a n c := by
  rcases h.2 with ⟨rfl, rfl⟩ | ⟨g, cap, cur, rfl, _⟩
  · exact ⟨_, _, rfl⟩
  · exact ⟨_, _, rfl⟩
theorem Goes.of_alloc {w : World} {o : Obj} {v v' : Value} (h : Goes (w.alloc o) v v') : Goes w v v' := by
  rcases h with h | ⟨k, h, hk⟩
  · exact .inl h
  · exact .inr ⟨k, h, by simp at hk; omega⟩
theorem nums_lt (s : ByteArray) : ∀ c ∈ nums s, c < 256 := by
  intro c hc
  obtain ⟨x, _, rfl⟩ := List.mem_map.mp hc
  exact x.toNat_lt
theorem outText_nil (s : ByteArray) (w : World) :
    Calls Try.prog 48 #[.pointer none, .string s] w fun e w' => e = .returned (.bool false) ∧ w = w' := by
  go_enter Try.func48, Try.ntmps48
  go_wp2
  go_ret
  exact ⟨rfl, rfl⟩
theorem outText_no (b : Nat) (s : ByteArray) (w : World) (hs : 65535 < s.size) :
    Calls Try.prog 48 #[.pointer (some ⟨b, 0, none⟩), .string s] w fun e w' => e = .returned (.bool false) ∧ w = w' := by
  have hd : decide (65535 < s.size) = true := decide_eq_true hs
  go_enter Try.func48, Try.ntmps48
  go_wp2
  go_ret
  exact ⟨rfl, rfl⟩
set_option maxHeartbeats 800000 in
theorem outText_yes (b : Nat) (s : ByteArray) (v : Value) (l : List Nat) (w : World) (hs : s.size ≤ 65535) (hll : l.length ≤ 549755813888) (ho : OutAt w b v l) :
    Calls Try.prog 48 #[.pointer (some ⟨b, 0, none⟩), .string s] w fun e w' => e = .returned (.bool true) ∧ ∃ v', OutAt w' b v' (l ++ beB 2 s.size ++ nums s) ∧ Goes w v v' ∧ Off (b :: v.ownBlock.toList) w w' := by
  obtain ⟨i0, hi, hz0, hz1, hz2⟩ := info_parts info_byte
  have hd : decide (65535 < s.size) = false := decide_eq_false (by omega)
  have hfit : fitsV 2 (s.size : Int) = true := by unfold fitsV wide; simp; omega
  have hb := ho.blk.lt
  have hvl := ho.lt
  have hoa := ho.off (w' := w.alloc (.cells #[.int .i64 s.size] 3)) ((Off.refl [] w).alloc _) (by simp) (by simp)
  have hnew := blk_new w #[.int .i64 s.size] 3
  have HO := Lib.hid hoa
  clear hoa
  go_enter Try.func48, Try.ntmps48
  have hsz := Lib.strCells_length s
  go_wp2_with (first
    | (go_at_call 40; refine (outNum_one b 2 _ w.heap.size v l _ rfl (by omega) hfit HO.out hnew (by omega) (fun e => by have := hvl _ e.symm; omega)).mono ?_; rintro e w1 ⟨rfl, v1, ho1, hg1, hf1⟩; have hc1 := ho1.blk.cell 0 _ rfl; have hl1 : (l ++ beB 2 (s.size : Int).toNat).length ≤ 549755813890 := (by simp [beB_length]; omega); generalize hL : l ++ beB 2 (s.size : Int).toNat = L at *; have HL := Lib.hid hL; clear hL)
    | (at_builtin; go_loud (refine wpList_append_text _ rfl (.tmp 21) (.tmp 22) 71 9 rfl 5 i0 Try.underlying71 Try.underlying9 hi hz0 hz1 hz2 _ _ _ rfl ho1.owns s rfl (by unfold maxLen; omega) (by omega) ?_; intro v2 w2 hown2 hgrow2 hg2; (have hg2' : Goes w1 v1 v2 := hg2); clear hg2; (have hg2 := Lib.hid hg2'); clear hg2'; obtain ⟨hb2, ho2⟩ := out_grown ho1 (Off.refl _ _) hgrow2; clear hgrow2; have hc2 := hb2.cell 0 _ rfl; have hf2 := hb2.free 0; obtain ⟨a2, c2, rfl⟩ := owns_form hown2)))
  go_ret
  rw [strCells_bytesL] at hown2
  obtain ⟨h3, h4⟩ := out_stored (m := nums s) ho1 hb2 ho2 (by rw [nums_length]; exact hown2) hg2.out (nums_lt s)
  have eL : l ++ beB 2 s.size = L := HL.out
  refine ⟨rfl, _, by rw [eL]; exact h3, ?_, ?_⟩
  · exact (Goes.trans (w := w) (w1 := w1) (by exact hg1.of_alloc) hg2.out (by have := hf1.size; simp at this; omega))
  · exact (((Off.refl _ _).alloc _).trans hf1 (by intro i _ h; exact h)).trans h4 (goes_mem hg1.of_alloc)
/-- what was written, as a text -/
theorem outString_nil (w : World) :
    Calls Try.prog 41 #[.pointer none] w fun e w' => e = .returned (.string ⟨#[]⟩) ∧ w = w' := by
  go_enter Try.func41, Try.ntmps41
  go_wp2
  go_ret
  exact ⟨rfl, rfl⟩
/-- the text of these bytes -/
def str (l : List Nat) : ByteArray := ⟨(l.map UInt8.ofNat).toArray⟩
theorem nums_str (l : List Nat) (h : ∀ c ∈ l, c < 256) : nums (str l) = l := by
  simp only [nums, str, List.map_map]
  refine (List.map_congr_left (g := id) fun c hc => ?_).trans (by simp)
  have := h c hc
  simp
  omega
theorem str_nums (s : ByteArray) : str (nums s) = s := by
  simp [str, nums, Function.comp_def]
theorem str_size (l : List Nat) : (str l).size = l.length := by simp [str, ByteArray.size]
theorem conv_owns {v : Value} {l : List Nat} {w : World} (h : w.ownsRow 0 5 1 v l.length (bytesL l)) :
    (convert 71 9 v).run Try.prog w = .ok (.string (str l)) w := by
  rcases h.2 with ⟨rfl, h0⟩ | ⟨g, cap, cur, rfl, _⟩
  · obtain rfl : l = [] := by simpa using h0
    exact run_convert_bytes_nil w _ 5 Try.underlying71 Try.underlying5 0 0 _ Try.underlying9
  · have h1 := run_convert_bytes_arg (P := Try.prog) w 71 5 Try.underlying71 Try.underlying5 g 0 l.length cap (l.map fun c : Nat => (c : Int)) (by simp) (fun i hi => by
      have := h.cells (g := g) rfl i (.int .u8 ((l[i] : Nat) : Int)) (by simp [bytesL, hi])
      have e : (⟨g, 0, none⟩ : Addr).add i = ⟨g, 0 + i, none⟩ := by unfold Addr.add; split <;> simp_all
      rw [e] at this
      rw [this]
      simp [hi]) 9 Try.underlying9
    have e2 : strOfNums (l.map fun c : Nat => (c : Int)) = str l := by simp [strOfNums, str, Function.comp_def]
    rw [h1, e2]
theorem outString (b : Nat) (v : Value) (l : List Nat) (w : World) (ho : OutAt w b v l) :
    Calls Try.prog 41 #[.pointer (some ⟨b, 0, none⟩)] w fun e w' => e = .returned (.string (str l)) ∧ w = w' := by
  have hc := ho.blk.cell 0 _ rfl
  have hk := conv_owns ho.owns
  go_enter Try.func41, Try.ntmps41
  go_wp2
  go_ret
  exact ⟨rfl, rfl⟩
end Go.Proofs.Ythflkhalipkdgaa.Pk
