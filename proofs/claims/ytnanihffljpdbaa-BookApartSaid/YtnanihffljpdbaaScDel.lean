/- Delete of slices of pairs, at one instance. -/
import Derived.Test.YtnanihffljpdbaaProg
import Derived.Below
import Derived.WalkKit
import Derived.KernelRfl
import Derived.RowKit3
import Derived.Deep.LoopGhost
import Derived.Deep.QuietTactic
import Derived.BigQuiet
import Derived.WideLaws
import Derived.Deep.DeepCutAuto
import Derived.Deep.CutBlock
import Derived.Lib.Hide
import Derived.Laws.BitsLemmas
import Derived.Laws.Bits64
import Derived.Laws.BitsAllLaws
import Derived.IntWalk
import Derived.Outline
import Derived.WalkSpells
import Derived.Test.YtnanihffljpdbaaMem
import Derived.Test.YtnanihffljpdbaaScIns
namespace Go.Proofs.Ytnanihffljpdbaa.Sc6
set_option linter.unusedVariables false
set_option linter.unusedSimpArgs false
open Go.RowKit Go.Proofs.Ytnanihffljpdbaa.Mem


theorem zer : ∃ z : Value, (∀ w, (zeroValue 97).run Try.prog w = .ok z w) ∧ z.cells.size = 9 ∧ ∀ n, ∀ v ∈ (Builtin.zeroCells z.cells n).toList, v.oneCell' = true := by
  refine ⟨.agg #[.int .i64 0, .int .i64 0, .int .i64 0, .int .i64 0, .int .i64 0, .int .i64 0, .int .i64 0, .int .i64 0, .int .i64 0], fun w => by go_simp, by decide, fun n v hv => ?_⟩
  obtain ⟨i, hi, rfl⟩ := List.getElem_of_mem hv
  simp [Builtin.zeroCells, Value.cells]
  have : i % 9 < 9 := Nat.mod_lt _ (by decide)
  generalize i % 9 = j at this ⊢
  match j, this with
  | 0, _ => rfl
  | 1, _ => rfl
  | 2, _ => rfl
  | 3, _ => rfl
  | 4, _ => rfl
  | 5, _ => rfl
  | 6, _ => rfl
  | 7, _ => rfl
  | 8, _ => rfl
set_option maxRecDepth 20000 in
set_option maxHeartbeats 16000000 in
theorem deleteC (a : Option Addr) (c i : Nat) (rows : List (List Value)) (w : World) (h : (rA a c 97 9 rows).holds w) (hi : i < rows.length) (hb : rows.length ≤ 1000000) :
    Calls Try.prog 101 #[.slice a rows.length c, .int .i64 i, .int .i64 ((i : Int) + 1)] w fun e w' => e = .returned (.slice a (rows.length - 1) c) ∧ (rA a c 97 9 (cutAt rows i)).holds w' ∧ Off (footA a) w w' := by
  have mixed : Try.prog.follows .mixedOrders = true := by kernel_rfl
  obtain ⟨i0, z0, hi0, _, hzs, _, _⟩ := el.info
  obtain ⟨z, hzv, hzc, hz1⟩ := zer
  obtain ⟨hrl, ⟨_, h0⟩ | ⟨b, cap, cur, he, _, hcur, hnc, hcm, hcz, htk⟩⟩ := h.1
  · omega
  injection he with e1 _ e3
  subst e1
  subst e3
  have hcur : Blk w b cur 97 := hcur
  have hwf := h.2
  clear h
  generalize hn : rows.length = n at *
  have hsz : (Try.prog.info? 97).map (·.size) = some 9 := by kernel_rfl
  have hnk : n * 9 ≤ cur.size := by rw [hcz]; exact Nat.mul_le_mul_right _ hnc
  have hdl : (rows.drop (i + 1)).flatten.length = (n - (i + 1)) * 9 := by rw [flatten_len 9 _ (fun r hr => hwf.len r (List.mem_of_mem_drop hr)), List.length_drop, hn]
  have hsrc : ∀ j v, (rows.drop (i + 1)).flatten[j]? = some v → w.cell? ⟨b, (i + 1) * 9 + j, none⟩ = some v := fun j v hj => by
    refine hcur.cell _ v ?_
    rw [← drop_flatten hwf.len, ← htk, List.getElem?_drop, List.getElem?_take] at hj
    split at hj
    · simpa using hj
    · cases hj
  have hmul : i * 9 + (n - (i + 1)) * 9 ≤ cur.size := by rw [← Nat.add_mul]; exact Nat.le_trans (Nat.mul_le_mul_right _ (by omega)) hnk
  obtain ⟨W1, hW1⟩ : ∃ W1, W1 = w.drew.setRow b (spl cur.toList (i * 9) (rows.drop (i + 1)).flatten).toArray := ⟨_, rfl⟩
  have hap : ∀ ty A, (i + 1 < n → A = ⟨b, (i + 1) * 9, none⟩) → (Builtin.append_ #[27, 27] ty #[.slice (some ⟨b, 0, none⟩) i c, .slice (some A) (n - (i + 1)) (c - (i + 1))]).run Try.prog w.drew = .ok (.slice (some ⟨b, 0, none⟩) (n - 1) c) W1 := fun ty A hA => by
    rw [run_append_room (P := Try.prog) w.drew 27 ty 97 i0 Try.underlying27 hi0 b i c cur hcur.drew A (n - (i + 1)) (c - (i + 1)) (rows.drop (i + 1)).flatten (by rw [hdl, hzs]) (fun j u hu => by
      rcases Nat.lt_or_ge (i + 1) n with h1 | h1
      · rw [hA h1, Addr.add_lit]
        exact hsrc j u hu
      · have := (List.getElem?_eq_some_iff.1 hu).1
        rw [hdl] at this
        omega) (fun v hv => by
        obtain ⟨r, hr, hv⟩ := List.mem_flatten.1 hv
        exact hwf.one r (List.mem_of_mem_drop hr) v hv) (by omega) (by rw [hzs, hdl]; exact hmul), hW1, hzs, spl_eq _ _ _ (by rw [hdl, Array.length_toList (xs := cur)]; exact hmul)]
    rw [show i + (n - (i + 1)) = n - 1 by omega]
  have hB1 : Blk W1 b (spl cur.toList (i * 9) (rows.drop (i + 1)).flatten).toArray 97 := by
    rw [hW1]
    exact setRow_heap w.drew b cur _ 97 _ hcur.drew
  have hO1 : Off [b] w W1 := by rw [hW1]; exact ((Off.refl [b] w).drew).trans (off_setRow _) (by simp)
  have hl1 : (spl cur.toList (i * 9) (rows.drop (i + 1)).flatten).length = cur.size := by rw [spl_length]; simp
  have hzl : (Builtin.zeroCells z.cells (n - (n - 1))).toList.length = 9 := by rw [zero_cells_length, hzc, show n - (n - 1) = 1 by omega]
  have hlast : (n - 1) * 9 + 9 ≤ cur.size := by rw [← Nat.succ_mul, show (n - 1).succ = n by omega]; exact hnk
  have hcl : ∀ ty, (Builtin.clear_ #[27] ty #[.slice (some ⟨b, (n - 1) * 9, none⟩) (n - (n - 1)) (c - (n - 1))]).run Try.prog W1 = .ok (.tuple #[]) (W1.setCells b ((n - 1) * 9) (Builtin.zeroCells z.cells (n - (n - 1))).toList) := fun ty =>
    run_clear_k W1 27 97 ty z Try.underlying27 hzv (hz1 _) b _ _ (by omega) (fun j hj => by rw [hB1.cell _ ((spl cur.toList (i * 9) (rows.drop (i + 1)).flatten)[(n - 1) * 9 + j]'(by rw [hl1]; rw [hzl] at hj; omega)) (by simp)]; rfl) (fun j hj => hB1.free _)
  obtain ⟨W2, hW2⟩ : ∃ W2, W2 = W1.setCells b ((n - 1) * 9) (Builtin.zeroCells z.cells (n - (n - 1))).toList := ⟨_, rfl⟩
  have hB2 := blk_setCells (Builtin.zeroCells z.cells (n - (n - 1))).toList ((n - 1) * 9) _ _ hB1
  rw [← hW2] at hcl hB2
  have hO2 : Off [b] w W2 := by rw [hW2]; exact hO1.trans (off_setCells _ _ _) (by simp)
  have HF : Hid ((rA (some ⟨b, 0, none⟩) c 97 9 (cutAt rows i)).holds W2 ∧ Off [b] w W2) := by
    refine Lib.hid ⟨rA_of_blk hB2 (cutAt_length (by omega)) (by omega) hcm (by simp [spl_length, hcz]) ?_ (hwf.cutAt i), hO2⟩
    have := cut_list (Z := (Builtin.zeroCells z.cells (n - (n - 1))).toList) (cur := cur.toList) hwf.len (i := i) (by omega) (by rw [hn, Array.length_toList (xs := cur)]; exact hnk) (by rw [hn]; exact htk) hzl
    rw [hn] at this ⊢
    simpa using this
  have hw1 : IntKind.i64.wrap ((i : Int) + 1) = (i : Int) + 1 := by rw [IntKind.wrap_i64]; unfold maxLen at hcm; omega
  have hb1 : (0 : Int) ≤ (i : Int) + 1 := by omega
  have hin : i ≤ n := by omega
  have hin1 : (i : Int) + 1 ≤ (n : Int) := by omega
  have hii : (i : Int) ≤ (i : Int) + 1 := by omega
  have htn : ((i : Int) + 1).toNat = i + 1 := by omega
  have hne : ¬ ((i : Int) = (i : Int) + 1) := by omega
  have hc1 : i ≤ c := by omega
  have hc2 : i + 1 ≤ c := by omega
  have hc3 : ¬ (c = n - 1) := by omega
  have hc4 : n - 1 ≤ n := by omega
  have hn1 : ((n : Int) - 1).toNat = n - 1 := by omega
  clear hsrc hcur hB1 hO1 hl1 hzl hlast hdl hmul hnk hcz htk hW1 hW2 hB2 hO2 hzv hz1 hzc hi0 hzs hsz hrl
  by_cases hcc : c = i + 1
  · have hni := Lib.hid (show n = i + 1 by omega)
    subst hcc
    go_enter Try.func101, Try.ntmps101
    go_wp2_with fail
    go_region_law_o (go_loud (refine step_append_runI rfl _ _ 27 27 rfl (.slice (some ⟨b, 0, none⟩) i (i + 1)) (.slice (some ⟨b, 0, none⟩) (n - (i + 1)) (i + 1 - (i + 1))) (by simp [Act.eval, Act.put]) (by simp [Act.eval, Act.put]; omega) (hap _ _ (fun h => absurd h (by omega))) ?_))
    go_wp2_with (at_builtin; refine wpList_clear_runI rfl _ 27 rfl _ rfl (hcl _) ?_)
    go_ret
    exact ⟨rfl, HF.out⟩
  · go_enter Try.func101, Try.ntmps101
    go_wp2_with fail
    go_region_law_o (go_loud (refine step_append_runI rfl _ _ 27 27 rfl (.slice (some ⟨b, 0, none⟩) i c) (.slice (some ⟨b, (i + 1) * 9, none⟩) (n - (i + 1)) (c - (i + 1))) (by simp [Act.eval, Act.put]) (by simp [Act.eval, Act.put]) (hap _ _ (fun _ => rfl)) ?_))
    go_wp2_with (at_builtin; refine wpList_clear_runI rfl _ 27 rfl _ rfl (hcl _) ?_)
    go_ret
    exact ⟨rfl, HF.out⟩

end Go.Proofs.Ytnanihffljpdbaa.Sc6
