/- ScIns ScDel ScFind -/
import Derived.Test.YtnanihffljpdbaaProg
import Derived.Below
import Derived.WalkKit
import Derived.KernelRfl
import Derived.RowKit3
import Derived.Deep.LoopGhost
import Derived.Deep.QuietTactic
import Derived.BigQuiet
import Derived.WideLaws
import Derived.Deep.DeepCutAuto
import Derived.Deep.CutBlock
import Derived.Lib.Hide
import Derived.Laws.BitsLemmas
import Derived.Laws.Bits64
import Derived.Laws.BitsAllLaws
import Derived.IntWalk
import Derived.Outline
import Derived.WalkSpells
import Derived.Test.YtnanihffljpdbaaGA
import Derived.Test.YtnanihffljpdbaaGR
import Derived.Deep.RegionLaw
import Derived.Test.YtnanihffljpdbaaCall1
import Derived.Sort.Walk0
import Derived.Shelf.SlSorted.Search
/- Clone and Insert of slices of pairs, at one instance. -/
namespace Go.Proofs.Ytnanihffljpdbaa.Sc6
set_option linter.unusedVariables false
set_option linter.unusedSimpArgs false
open Go.RowKit Go.Proofs.Ytnanihffljpdbaa.Mem


theorem el : ElI Try.prog 27 97 9 72 := ElI.of (by kernel_rfl) (by kernel_rfl) (by decide)
set_option maxRecDepth 20000 in
set_option maxHeartbeats 16000000 in
theorem cloneC (a : Option Addr) (c : Nat) (rows : List (List Value)) (w : World) (h : (rS a c 9 rows).holds w) (hb : rows.length ≤ 1000000) :
    Calls Try.prog 66 #[.slice a rows.length c] w fun e w' => ∃ a' c', e = .returned (.slice a' rows.length c') ∧ (rA a' c' 97 9 rows).holds w' ∧ (∀ q ∈ footA a', w.heap.size ≤ q) ∧ Off [] w w' := by
  have H0 := Lib.hid (Hp.start [] w)
  have H := hp_old H0 h (by decide)
  clear H0
  cases a with
  | none =>
    obtain rfl : rows = [] := by
      rcases h.1 with ⟨_, h0⟩ | ⟨x, c', he, _⟩
      · exact h0
      · cases he
    go_enter Try.func66, Try.ntmps66
    go_wp2_with (simp only [Lib.run_eql_slice_nil _ _ _ _ _ _ _ _ Try.underlying27, Result.andThen_ok, Option.isNone_none, Option.isNone_some])
    go_ret
    exact ⟨none, 0, rfl, ⟨World.ownsRow_nil _ _ _ _, Wf.nil _⟩, by simp [footA], H.out.off⟩
  | some x =>
    go_enter Try.func66, Try.ntmps66
    go_wp2_with (first
      | (simp only [Lib.run_eql_slice_nil _ _ _ _ _ _ _ _ Try.underlying27, Result.andThen_ok, Option.isNone_none, Option.isNone_some])
      | ((with_reducible apply hp_bslice0 el H); (focus (exact rfl)); (focus (exact rfl)); intro w5 b5 H5; clear H; have H := H5; clear H5)
      | (at_builtin; refine hp_append el H rfl rfl 0 rfl rfl rfl rfl rfl (hp_held H (a := some x) (c := c) (rows := rows) (by simp)) (by simp; omega) (by decide) ?_; intro w6 a6 c6 H6; clear H; have H := H6; clear H6))
    go_ret
    obtain ⟨h1, h2, h3⟩ := hp_giveA H (List.mem_cons_self ..)
    exact ⟨a6, c6, rfl, h1, h2, h3⟩

set_option maxRecDepth 20000 in
set_option maxHeartbeats 16000000 in
theorem insert_shift (b c i n g : Nat) (rows : List (List Value)) (p : List Value) (cur : Array Value) (w : World) (hn : rows.length = n) (hwf : Wf 9 rows) (hcur : Blk w b cur 97) (hcz : cur.size = c * 9) (htk : cur.toList.take (n * 9) = rows.flatten) (hp : p.length = 9 ∧ ∀ u ∈ p, u.oneCell' = true) (hg : Blk w g p.toArray 97) (hgb : g ≠ b) (hi : i < n) (hroom : n + 1 ≤ c) (hc63 : c ≤ 9223372036854775807) (hb : n ≤ 1000000) :
    Calls Try.prog 102 #[.slice (some ⟨b, 0, none⟩) n c, .int .i64 i, .slice (some ⟨g, 0, none⟩) 1 1] w fun e w' => e = .returned (.slice (some ⟨b, 0, none⟩) (n + 1) c) ∧ w' = (w.drew.setCells b ((i + 1) * 9) (rows.drop i).flatten).setCells b (i * 9) p := by
  have hz2 : ¬ ((i : Int) = (n : Int)) := by omega
  have hw1 : IntKind.i64.wrap ((i : Int) + 1) = (i : Int) + 1 := by rw [IntKind.wrap_i64]; omega
  have hb1 : (0 : Int) ≤ (i : Int) + 1 := by omega
  have hin : i ≤ n := by omega
  have htn : ((i : Int) + 1).toNat = i + 1 := by omega
  have hb2 : ¬ (c = i + 1) := by omega
  have hb3 : (i : Int) ≤ (n : Int) + 1 := by omega
  have hb4 : ¬ (c = i) := by omega
  have mixed : Try.prog.follows .mixedOrders = true := by kernel_rfl
  have hm1 : Nat.min (n + 1 - i) (n + 1 - (i + 1)) = n - i := by show min _ _ = _; omega
  have hm2 : Nat.min 1 (n + 1 - i) = 1 := by show min _ _ = _; omega
  have hnk : (n + 1) * 9 ≤ cur.size := by rw [hcz]; exact Nat.mul_le_mul_right _ hroom
  have hsz : (Try.prog.info? 97).map (·.size) = some 9 := by kernel_rfl
  have hdl : (rows.drop i).flatten.length = (n - i) * 9 := by rw [flatten_len 9 _ (fun r hr => hwf.len r (List.mem_of_mem_drop hr)), List.length_drop, hn]
  have hcell : ∀ j, j < cur.size → (w.cell? ⟨b, j, none⟩).isSome = true := fun j hj => by
    rw [hcur.cell j cur[j] (by simp [hj])]
    rfl
  have hsrc : ∀ j v, (rows.drop i).flatten[j]? = some v → w.cell? ⟨b, i * 9 + j, none⟩ = some v := fun j v hj => by
    refine hcur.cell _ v ?_
    have hjl : j < (rows.drop i).flatten.length := (List.getElem?_eq_some_iff.1 hj).1
    rw [← drop_flatten hwf.len, ← htk, List.getElem?_drop, List.getElem?_take] at hj
    split at hj
    · simpa using hj
    · cases hj
  have hov : ∀ lb cb, (callFunc 113 #[.slice (some ⟨g, 0, none⟩) 1 1, .slice (some ⟨b, (i + 1) * 9, none⟩) lb cb]).run Try.prog w = .ok (.value (.bool false)) w := fun lb cb => by
    rw [run_callFunc_extern Try.func113 (by kernel_rfl) (by kernel_rfl) (by kernel_rfl) (e := Extern.SlicesOverlaps.overlaps #[27, 27] #[4]) (by kernel_rfl),
      Lib.run_overlaps_apart w 27 4 97 Try.underlying27 9 (fun w => by go_simp) ⟨g, 0, none⟩ ⟨b, (i + 1) * 9, none⟩ 1 1 lb cb hgb 97 97 p.toArray.size cur.size (blk_shape hg) (blk_shape hcur) (by omega) (hg.free _) (hg.free _)]
    rfl
  have hcp1 : ∀ ty dc sc, (Builtin.copy_ #[27, 27] ty #[.slice (some ⟨b, (i + 1) * 9, none⟩) (n + 1 - (i + 1)) dc, .slice (some ⟨b, i * 9, none⟩) (n + 1 - i) sc]).run Try.prog w.drew = .ok (goInt (Nat.min (n + 1 - i) (n + 1 - (i + 1)))) (w.drew.setCells b ((i + 1) * 9) (rows.drop i).flatten) := fun ty dc sc =>
    run_copy_k w.drew _ _ ty 97 9 b ((i + 1) * 9) (n + 1 - (i + 1)) dc ⟨b, i * 9, none⟩ (n + 1 - i) sc _ Try.underlying27 hsz (by rw [hdl, hm1])
      (fun j v hj => by rw [Addr.add_lit]; exact hsrc j v hj) (fun j hj => hcell _ (by rw [hdl] at hj; omega)) (fun j hj => hcur.free _) (fun v hv => by
        obtain ⟨r, hr, hv⟩ := List.mem_flatten.1 hv
        exact hwf.one r (List.mem_of_mem_drop hr) v hv)
  obtain ⟨W1, hW1⟩ : ∃ W1, W1 = w.drew.setCells b ((i + 1) * 9) (rows.drop i).flatten := ⟨_, rfl⟩
  have hB1 : Blk W1 b (spl cur.toList ((i + 1) * 9) (rows.drop i).flatten).toArray 97 := by
    rw [hW1]
    exact blk_setCells _ _ cur.toList w.drew (by simpa using hcur.drew)
  have hG1 : Blk W1 g p.toArray 97 := by
    rw [hW1]
    exact (off_setCells (b := b) _ _ w.drew).blk hg.drew (by simpa using hgb)
  have hl1 : (spl cur.toList ((i + 1) * 9) (rows.drop i).flatten).length = cur.size := by rw [spl_length]; simp
  have hcp2 : ∀ ty dc, (Builtin.copy_ #[27, 27] ty #[.slice (some ⟨b, i * 9, none⟩) (n + 1 - i) dc, .slice (some ⟨g, 0, none⟩) 1 1]).run Try.prog W1 = .ok (goInt (Nat.min 1 (n + 1 - i))) (W1.setCells b (i * 9) p) := fun ty dc =>
    run_copy_k W1 _ _ ty 97 9 b (i * 9) (n + 1 - i) dc ⟨g, 0, none⟩ 1 1 p Try.underlying27 hsz (by rw [hp.1, hm2])
      (fun j v hj => by rw [Addr.add_lit]; exact hG1.cell _ v (by simpa using hj)) (fun j hj => by rw [hB1.cell _ ((spl cur.toList ((i + 1) * 9) (rows.drop i).flatten)[i * 9 + j]'(by rw [hl1]; rw [hp.1] at hj; omega)) (by simp)]; rfl) (fun j hj => hB1.free _) hp.2
  rw [← hW1] at hcp1 ⊢
  have HW := Lib.hid hW1
  clear hW1
  clear hm1 hm2 hcell hsrc hcur hB1 hG1 hg htk hcz hl1 hdl hnk
  go_enter Try.func102, Try.ntmps102
  go_wp2_with (simp only [hov])
  go_region_law_o (go_loud (refine step_copy_runI rfl _ _ 27 27 rfl (.slice (some ⟨b, (i + 1) * 9, none⟩) (n + 1 - (i + 1)) (c - (i + 1))) (.slice (some ⟨b, i * 9, none⟩) (n + 1 - i) (c - i)) (by simp [Act.eval, Act.put]) (by simp [Act.eval, Act.put]) (hcp1 _ _ _) ?_))
  go_wp2_with (at_builtin; refine wpList_copy_runI _ rfl _ _ 27 27 rfl _ _ rfl rfl (hcp2 _ _) ?_)
  go_ret
  exact ⟨rfl, rfl⟩

set_option maxRecDepth 20000 in
set_option maxHeartbeats 16000000 in
theorem insert_grow (b c i n g : Nat) (rows : List (List Value)) (p : List Value) (w : World) (hn : rows.length = n) (hwf : Wf 9 rows) (hcells : ∀ j v, rows.flatten[j]? = some v → w.cell? ⟨b, j, none⟩ = some v) (hp : p.length = 9 ∧ ∀ u ∈ p, u.oneCell' = true) (hg : Blk w g p.toArray 97) (hi : i < n) (hnc : n ≤ c) (hroom : c < n + 1) (hb : n ≤ 1000000) :
    Calls Try.prog 102 #[.slice (some ⟨b, 0, none⟩) n c, .int .i64 i, .slice (some ⟨g, 0, none⟩) 1 1] w fun e w' => ∃ N G cs, e = .returned (.slice (some ⟨N, 0, none⟩) (n + 1) G) ∧ n + 1 ≤ G ∧ G ≤ maxLen ∧ w.heap.size ≤ N ∧ Blk w' N cs 97 ∧ cs.size = G * 9 ∧ cs.toList.take ((n + 1) * 9) = (putIn rows i p).flatten ∧ Off [] w w' := by
  have mixed : Try.prog.follows .mixedOrders = true := by kernel_rfl
  obtain ⟨i0, z, hi0, hz0, hzs, hzb, hzc⟩ := el.info
  have hz2 : ¬ ((i : Int) = (n : Int)) := by omega
  have hz3 : (c : Int) < (n : Int) + 1 := by omega
  have hsz : (Try.prog.info? 97).map (·.size) = some 9 := by kernel_rfl
  have hrl : rows.flatten.length = n * 9 := by rw [flatten_len 9 _ hwf.len, hn]
  have hbw : b < w.heap.size := lt_of_cell (hcells 0 _ (List.getElem?_eq_getElem (by omega)))
  have hkk : (n : Int) + 1 - (i : Int) = ((n + 1 - i : Nat) : Int) := by omega
  have hik : i + (n + 1 - i) = n + 1 := by omega
  have htl : (rows.take i).flatten.length = i * 9 := by rw [flatten_len 9 _ (fun r hr => hwf.len r (List.mem_of_mem_take hr)), List.length_take, hn, Nat.min_eq_left (by omega)]
  have hdl : (rows.drop i).flatten.length = (n - i) * 9 := by rw [flatten_len 9 _ (fun r hr => hwf.len r (List.mem_of_mem_drop hr)), List.length_drop, hn]
  have hold : (Builtin.firstCells i0.size i (.slice (some ⟨b, 0, none⟩) i c)).run Try.prog w.drew = .ok (rows.take i).flatten.toArray w.drew := by
    rw [hzs]
    exact run_firstCells_some w.drew 9 i ⟨b, 0, none⟩ i c _ htl (fun j v hj => by
      rw [Addr.add_lit, Nat.zero_add]
      rw [← take_flatten hwf.len, List.getElem?_take] at hj
      split at hj
      · exact hcells j v hj
      · cases hj)
  obtain ⟨G, hG⟩ : ∃ G, G = grownCap w (n + 1) c 97 := ⟨_, rfl⟩
  have hGn : n + 1 ≤ G := by rw [hG]; exact grownCap_ge w _ _ _
  have hGm : G ≤ maxLen := by rw [hG]; exact grownCap_le_maxLen w (n + 1) c 97 (by unfold maxLen; omega)
  have hG63 : G ≤ 9223372036854775807 := by unfold maxLen at hGm; omega
  obtain ⟨Z, hZ⟩ : ∃ Z : List Value, Z = (Builtin.zeroCells z.cells (n + 1 - i)).toList ++ (Builtin.zeroCells z.cells (G - (n + 1))).toList := ⟨_, rfl⟩
  have hZl : Z.length = (G - i) * 9 := by
    rw [hZ, List.length_append, zero_cells_length, zero_cells_length, hzc, ← Nat.add_mul]
    congr 1
    omega
  have hrz : ∀ ty, (Builtin.append_ #[27, 3] ty #[.slice (some ⟨b, 0, none⟩) i c, .int .i64 ((n : Int) + 1 - (i : Int))]).run Try.prog w =
      .ok (.slice (some ⟨w.heap.size, 0, none⟩) (n + 1) G) (w.drew.alloc (.cells ((rows.take i).flatten ++ Z).toArray 97)) := fun ty => by
    have h := Lib.run_append_grow_zeros w 27 3 ty 97 i0 z .i64 .i64 Try.underlying27 Try.underlying3 hi0 hz0 (some ⟨b, 0, none⟩) i c _ hold (n + 1 - i) (by omega) (by omega) (by omega) (by omega) (by rw [hzb]; omega) (by rw [hzb, hik]; exact growslice_fits hroom (by omega))
    rw [hik, ← hG] at h
    rw [hkk, h, hZ]
    congr 3
    apply Array.ext'
    simp
  obtain ⟨W1, hW1⟩ : ∃ W1, W1 = w.drew.alloc (.cells ((rows.take i).flatten ++ Z).toArray 97) := ⟨_, rfl⟩
  rw [← hW1] at hrz
  have hB1 : Blk W1 w.heap.size ((rows.take i).flatten ++ Z).toArray 97 := by rw [hW1]; exact blk_new w.drew _ _
  have hO1 : Off [] w W1 := by rw [hW1]; exact ((Off.refl [] w).drew).alloc _
  have hG1 : Blk W1 g p.toArray 97 := hO1.blk hg (by simp)
  have hgN : g ≠ w.heap.size := by have := hg.lt; omega
  obtain ⟨N, hN⟩ : ∃ N, N = w.heap.size := ⟨_, rfl⟩
  have hc1 : ∀ j v, rows.flatten[j]? = some v → W1.cell? ⟨b, j, none⟩ = some v := fun j v hj => by rw [hO1.cell hbw (by simp)]; exact hcells j v hj
  rw [← hN] at hrz hB1 hgN hbw
  have hm1 : Nat.min (n - i) (n + 1 - (i + 1)) = n - i := by show min _ _ = _; omega
  have hm2 : Nat.min 1 (n + 1 - i) = 1 := by show min _ _ = _; omega
  have hXl : ((rows.take i).flatten ++ Z).length = G * 9 := by rw [List.length_append, htl, hZl, ← Nat.add_mul]; congr 1; omega
  have hGk : (n + 1) * 9 ≤ G * 9 := Nat.mul_le_mul_right _ hGn
  have hcpA : ∀ ty dc, (Builtin.copy_ #[27, 27] ty #[.slice (some ⟨N, i * 9, none⟩) (n + 1 - i) dc, .slice (some ⟨g, 0, none⟩) 1 1]).run Try.prog W1 = .ok (goInt (Nat.min 1 (n + 1 - i))) (W1.setCells N (i * 9) p) := fun ty dc =>
    run_copy_k W1 _ _ ty 97 9 N (i * 9) (n + 1 - i) dc ⟨g, 0, none⟩ 1 1 p Try.underlying27 hsz (by rw [hp.1, hm2])
      (fun j v hj => by rw [Addr.add_lit]; exact hG1.cell _ v (by simpa using hj)) (fun j hj => by rw [hB1.cell _ (((rows.take i).flatten ++ Z)[i * 9 + j]'(by rw [hXl]; rw [hp.1] at hj; omega)) (by simp)]; rfl) (fun j hj => hB1.free _) hp.2
  obtain ⟨W2, hW2⟩ : ∃ W2, W2 = W1.setCells N (i * 9) p := ⟨_, rfl⟩
  have hB2 : Blk W2 N (spl ((rows.take i).flatten ++ Z) (i * 9) p).toArray 97 := by rw [hW2]; exact blk_setCells _ _ _ _ hB1
  have hO2 : Off [N] W1 W2 := by rw [hW2]; exact off_setCells _ _ _
  rw [← hW2] at hcpA
  have hYl : (spl ((rows.take i).flatten ++ Z) (i * 9) p).length = G * 9 := by rw [spl_length, hXl]
  have hcpB : ∀ ty dc sc, (Builtin.copy_ #[27, 27] ty #[.slice (some ⟨N, (i + 1) * 9, none⟩) (n + 1 - (i + 1)) dc, .slice (some ⟨b, i * 9, none⟩) (n - i) sc]).run Try.prog W2.drew = .ok (goInt (Nat.min (n - i) (n + 1 - (i + 1)))) (W2.drew.setCells N ((i + 1) * 9) (rows.drop i).flatten) := fun ty dc sc =>
    run_copy_k W2.drew _ _ ty 97 9 N ((i + 1) * 9) (n + 1 - (i + 1)) dc ⟨b, i * 9, none⟩ (n - i) sc _ Try.underlying27 hsz (by rw [hdl, hm1])
      (fun j v hj => by
        rw [Addr.add_lit]
        show W2.cell? _ = some v
        rw [hO2.cell (Nat.lt_of_lt_of_le (show b < w.heap.size by omega) hO1.size) (by simp; omega)]
        refine hc1 _ v ?_
        rw [← drop_flatten hwf.len, List.getElem?_drop] at hj
        exact hj) (fun j hj => by rw [hB2.drew.cell _ ((spl ((rows.take i).flatten ++ Z) (i * 9) p)[(i + 1) * 9 + j]'(by rw [hYl]; rw [hdl] at hj; omega)) (by simp)]; rfl) (fun j hj => hB2.drew.free _) (fun v hv => by
        obtain ⟨r, hr, hv⟩ := List.mem_flatten.1 hv
        exact hwf.one r (List.mem_of_mem_drop hr) v hv)
  obtain ⟨W3, hW3⟩ : ∃ W3, W3 = W2.drew.setCells N ((i + 1) * 9) (rows.drop i).flatten := ⟨_, rfl⟩
  have hB3 : Blk W3 N (spl (spl ((rows.take i).flatten ++ Z) (i * 9) p) ((i + 1) * 9) (rows.drop i).flatten).toArray 97 := by rw [hW3]; exact blk_setCells _ _ _ _ hB2.drew
  have hO3 : Off [N] W2 W3 := by rw [hW3]; exact Off.trans ((Off.refl [N] W2).drew) (off_setCells _ _ _) (by simp)
  rw [← hW3] at hcpB
  have hO : Off [] w W3 := (hO1.fresh (hO2.trans hO3 (by simp)) (by simp [hN]))
  have HF : Hid (W3 = W3 ∧ Blk W3 N (spl (spl ((rows.take i).flatten ++ Z) (i * 9) p) ((i + 1) * 9) (rows.drop i).flatten).toArray 97 ∧ (spl (spl ((rows.take i).flatten ++ Z) (i * 9) p) ((i + 1) * 9) (rows.drop i).flatten).length = G * 9 ∧ (spl (spl ((rows.take i).flatten ++ Z) (i * 9) p) ((i + 1) * 9) (rows.drop i).flatten).take ((n + 1) * 9) = (putIn rows i p).flatten ∧ Off [] w W3 ∧ w.heap.size ≤ N ∧ G ≤ maxLen) := by
    refine Lib.hid ⟨rfl, hB3, by rw [spl_length, hYl], ?_, hO, by omega, hGm⟩
    rw [← hn]
    exact grow_list hwf.len hp.1 (by omega) (by rw [hn, hZl]; exact Nat.mul_le_mul_right _ (by omega))
  have hGi : ¬ (G = i) := by omega
  have hGim : ¬ (G = i + 1) := by omega
  have hci : ¬ (c = i) := by omega
  have hw1 : IntKind.i64.wrap ((i : Int) + 1) = (i : Int) + 1 := by rw [IntKind.wrap_i64]; omega
  have hb1 : (0 : Int) ≤ (i : Int) + 1 := by omega
  have hin : i ≤ n := by omega
  have htn : ((i : Int) + 1).toNat = i + 1 := by omega
  have hb3 : (i : Int) ≤ (n : Int) := by omega
  clear hkk hik hold hG hZ hZl hB1 hB2 hB3 hO1 hO2 hO3 hO hG1 hc1 hcells hg hXl hYl hGk hm1 hm2 hrl htl hdl hGm hW1 hW2 hW3 hN hgN hbw hi0 hz0 hzs hzb hzc hsz
  go_enter Try.func102, Try.ntmps102
  go_wp2_with (first
    | (at_builtin; refine Lib.wpList_append_run _ rfl _ _ _ _ rfl _ _ rfl rfl _ _ (hrz _) ?_)
    | (at_builtin; refine wpList_copy_runI _ rfl _ _ 27 27 rfl _ _ rfl rfl (hcpA _ _) ?_))
  go_region_law_o (refine step_copy_runI rfl _ _ 27 27 rfl (.slice (some ⟨N, (i + 1) * 9, none⟩) (n + 1 - (i + 1)) (G - (i + 1))) (.slice (some ⟨b, i * 9, none⟩) (n - i) (c - i)) (by simp [Act.eval, Act.put]) (by simp [Act.eval, Act.put]) (hcpB _ _ _) ?_)
  go_wp2
  go_ret
  obtain ⟨_, f1, f2, f3, f4, f5, f6⟩ := HF.out
  exact ⟨N, G, _, rfl, hGn, f6, f5, f1, by simpa using f2, by simpa using f3, f4⟩

set_option maxRecDepth 20000 in
set_option maxHeartbeats 16000000 in
theorem insert_end (a : Option Addr) (c g : Nat) (rows : List (List Value)) (p : List Value) (w : World) (h : (rA a c 97 9 rows).holds w) (hp : p.length = 9 ∧ ∀ u ∈ p, u.oneCell' = true) (hg : Blk w g p.toArray 97) (hgf : g ∉ footA a) (hb : rows.length ≤ 1000000) :
    Calls Try.prog 102 #[.slice a rows.length c, .int .i64 rows.length, .slice (some ⟨g, 0, none⟩) 1 1] w fun e w' => ∃ a' c', e = .returned (.slice a' (rows ++ [p]).length c') ∧ (rA a' c' 97 9 (rows ++ [p])).holds w' ∧ (∀ q ∈ footA a', q ∈ footA a ∨ w.heap.size ≤ q) ∧ Off (footA a) w w' := by
  have H := hp_startA h
  have HS := Lib.hid (single_of_blk hg hp)
  have hcap : rows.length ≤ c := by
    rcases h.1.2 with ⟨he, h0⟩ | ⟨q, cap, cur, he, _, _, h2, _⟩
    · omega
    · injection he with _ _ e3
      omega
  have hcm : c ≤ 9223372036854775807 := by
    rcases h.1.2 with ⟨he, h0⟩ | ⟨q, cap, cur, he, _, _, _, h2, _⟩
    · injection he with _ _ e3
      omega
    · injection he with _ _ e3
      unfold maxLen at h2
      omega
  have hn0 : Hid (a = none → rows.length = 0) := Lib.hid (by
    intro ha
    rcases h.1.2 with ⟨he, h0⟩ | ⟨q, cap, cur, he, _⟩
    · exact h0
    · injection he with e1 _ _
      rw [ha] at e1
      cases e1)
  clear h hg hgf
  cases a with
  | none =>
    obtain rfl : rows = [] := List.length_eq_zero_iff.1 (hn0.out rfl)
    go_enter Try.func102, Try.ntmps102
    go_wp2_with (at_builtin; refine hp_append el H rfl rfl 0 rfl rfl rfl rfl rfl HS.out (by simp) (by decide) ?_; intro w6 a6 c6 H6; clear H; have H := H6; clear H6)
    go_ret
    refine ⟨a6, c6, rfl, H.out.holds _ (List.mem_cons_self ..), fun q hq => ?_, H.out.off⟩
    exact H.out.newf _ (List.mem_cons_self ..) rfl q hq
  | some x =>
    go_enter Try.func102, Try.ntmps102
    go_wp2_with (at_builtin; refine hp_append el H rfl rfl 0 rfl rfl rfl rfl rfl HS.out (by simp; omega) (by decide) ?_; intro w6 a6 c6 H6; clear H; have H := H6; clear H6)
    all_goals
      go_ret
      refine ⟨a6, c6, rfl, H.out.holds _ (List.mem_cons_self ..), fun q hq => ?_, H.out.off⟩
      exact H.out.newf _ (List.mem_cons_self ..) rfl q hq
theorem insertC (a : Option Addr) (c i g : Nat) (rows : List (List Value)) (p : List Value) (w : World) (h : (rA a c 97 9 rows).holds w) (hp : p.length = 9 ∧ ∀ u ∈ p, u.oneCell' = true) (hg : Blk w g p.toArray 97) (hgf : g ∉ footA a) (hi : i ≤ rows.length) (hb : rows.length ≤ 1000000) :
    Calls Try.prog 102 #[.slice a rows.length c, .int .i64 i, .slice (some ⟨g, 0, none⟩) 1 1] w fun e w' => ∃ a' c', e = .returned (.slice a' (putIn rows i p).length c') ∧ (rA a' c' 97 9 (putIn rows i p)).holds w' ∧ (∀ q ∈ footA a', q ∈ footA a ∨ w.heap.size ≤ q) ∧ Off (footA a) w w' := by
  rcases Nat.lt_or_ge i rows.length with hlt | hge
  · rcases h.1.2 with ⟨_, h0⟩ | ⟨b, cap, cur, he, _, hcur, hnc, hcm, hcz, htk⟩
    · omega
    · injection he with e1 _ e3
      subst e1
      subst e3
      have hgb : g ≠ b := by simpa [footA] using hgf
      rcases Nat.lt_or_ge c (rows.length + 1) with hr | hr
      · refine (insert_grow b c i rows.length g rows p w rfl h.2 (fun j v hj => ?_) hp hg hlt hnc hr hb).mono ?_
        · have := h.1.cells (g := b) rfl j v hj
          rwa [Addr.add_lit, Nat.zero_add] at this
        · rintro e w' ⟨N, G, cs, rfl, h1, h2, h3, h4, h5, h6, h7⟩
          refine ⟨some ⟨N, 0, none⟩, G, by rw [putIn_length hi], rA_of_blk h4 (putIn_length hi) h1 h2 h5 h6 (h.2.putIn hp i), fun q hq => .inr ?_, h7.mono (by simp)⟩
          obtain rfl : q = N := by simpa [footA] using hq
          exact h3
      · refine (insert_shift b c i rows.length g rows p cur w rfl h.2 hcur hcz htk hp hg hgb hlt hr (by unfold maxLen at hcm; omega) hb).mono ?_
        rintro e w' ⟨rfl, rfl⟩
        have hB1 := blk_setCells (rows.drop i).flatten ((i + 1) * 9) cur.toList w.drew (b := b) (t := 97) (show Blk w b cur.toList.toArray 97 from hcur)
        have hB2 := blk_setCells p (i * 9) _ _ hB1
        refine ⟨some ⟨b, 0, none⟩, c, by rw [putIn_length hi], rA_of_blk hB2 (putIn_length hi) hr hcm (by simp [spl_length, hcz]) ?_ (h.2.putIn hp i), fun q hq => .inl hq, ?_⟩
        · simpa using shift_list h.2.len hp.1 hi (by show (rows.length + 1) * 9 ≤ cur.toList.length; rw [Array.length_toList (xs := cur), hcz]; exact Nat.mul_le_mul_right _ hr) htk
        · exact (((Off.refl (footA (some ⟨b, 0, none⟩)) w).drew).trans (off_setCells _ _ _) (by simp [footA])).trans (off_setCells _ _ _) (by simp [footA])
  · obtain rfl : i = rows.length := by omega
    have e : putIn rows rows.length p = rows ++ [p] := by simp [putIn]
    rw [e]
    exact insert_end a c g rows p w h hp hg hgf hb

end Go.Proofs.Ytnanihffljpdbaa.Sc6

/- Delete of slices of pairs, at one instance. -/
namespace Go.Proofs.Ytnanihffljpdbaa.Sc6
set_option linter.unusedVariables false
set_option linter.unusedSimpArgs false
open Go.RowKit Go.Proofs.Ytnanihffljpdbaa.Mem


theorem zer : ∃ z : Value, (∀ w, (zeroValue 97).run Try.prog w = .ok z w) ∧ z.cells.size = 9 ∧ ∀ n, ∀ v ∈ (Builtin.zeroCells z.cells n).toList, v.oneCell' = true := by
  refine ⟨.agg #[.int .i64 0, .int .i64 0, .int .i64 0, .int .i64 0, .int .i64 0, .int .i64 0, .int .i64 0, .int .i64 0, .int .i64 0], fun w => by go_simp, by decide, fun n v hv => ?_⟩
  obtain ⟨i, hi, rfl⟩ := List.getElem_of_mem hv
  simp [Builtin.zeroCells, Value.cells]
  have : i % 9 < 9 := Nat.mod_lt _ (by decide)
  generalize i % 9 = j at this ⊢
  match j, this with
  | 0, _ => rfl
  | 1, _ => rfl
  | 2, _ => rfl
  | 3, _ => rfl
  | 4, _ => rfl
  | 5, _ => rfl
  | 6, _ => rfl
  | 7, _ => rfl
  | 8, _ => rfl
set_option maxRecDepth 20000 in
set_option maxHeartbeats 16000000 in
theorem deleteC (a : Option Addr) (c i : Nat) (rows : List (List Value)) (w : World) (h : (rA a c 97 9 rows).holds w) (hi : i < rows.length) (hb : rows.length ≤ 1000000) :
    Calls Try.prog 101 #[.slice a rows.length c, .int .i64 i, .int .i64 ((i : Int) + 1)] w fun e w' => e = .returned (.slice a (rows.length - 1) c) ∧ (rA a c 97 9 (cutAt rows i)).holds w' ∧ Off (footA a) w w' := by
  have mixed : Try.prog.follows .mixedOrders = true := by kernel_rfl
  obtain ⟨i0, z0, hi0, _, hzs, _, _⟩ := el.info
  obtain ⟨z, hzv, hzc, hz1⟩ := zer
  obtain ⟨hrl, ⟨_, h0⟩ | ⟨b, cap, cur, he, _, hcur, hnc, hcm, hcz, htk⟩⟩ := h.1
  · omega
  injection he with e1 _ e3
  subst e1
  subst e3
  have hcur : Blk w b cur 97 := hcur
  have hwf := h.2
  clear h
  generalize hn : rows.length = n at *
  have hsz : (Try.prog.info? 97).map (·.size) = some 9 := by kernel_rfl
  have hnk : n * 9 ≤ cur.size := by rw [hcz]; exact Nat.mul_le_mul_right _ hnc
  have hdl : (rows.drop (i + 1)).flatten.length = (n - (i + 1)) * 9 := by rw [flatten_len 9 _ (fun r hr => hwf.len r (List.mem_of_mem_drop hr)), List.length_drop, hn]
  have hsrc : ∀ j v, (rows.drop (i + 1)).flatten[j]? = some v → w.cell? ⟨b, (i + 1) * 9 + j, none⟩ = some v := fun j v hj => by
    refine hcur.cell _ v ?_
    rw [← drop_flatten hwf.len, ← htk, List.getElem?_drop, List.getElem?_take] at hj
    split at hj
    · simpa using hj
    · cases hj
  have hmul : i * 9 + (n - (i + 1)) * 9 ≤ cur.size := by rw [← Nat.add_mul]; exact Nat.le_trans (Nat.mul_le_mul_right _ (by omega)) hnk
  obtain ⟨W1, hW1⟩ : ∃ W1, W1 = w.drew.setRow b (spl cur.toList (i * 9) (rows.drop (i + 1)).flatten).toArray := ⟨_, rfl⟩
  have hap : ∀ ty A, (i + 1 < n → A = ⟨b, (i + 1) * 9, none⟩) → (Builtin.append_ #[27, 27] ty #[.slice (some ⟨b, 0, none⟩) i c, .slice (some A) (n - (i + 1)) (c - (i + 1))]).run Try.prog w.drew = .ok (.slice (some ⟨b, 0, none⟩) (n - 1) c) W1 := fun ty A hA => by
    rw [run_append_room (P := Try.prog) w.drew 27 ty 97 i0 Try.underlying27 hi0 b i c cur hcur.drew A (n - (i + 1)) (c - (i + 1)) (rows.drop (i + 1)).flatten (by rw [hdl, hzs]) (fun j u hu => by
      rcases Nat.lt_or_ge (i + 1) n with h1 | h1
      · rw [hA h1, Addr.add_lit]
        exact hsrc j u hu
      · have := (List.getElem?_eq_some_iff.1 hu).1
        rw [hdl] at this
        omega) (fun v hv => by
        obtain ⟨r, hr, hv⟩ := List.mem_flatten.1 hv
        exact hwf.one r (List.mem_of_mem_drop hr) v hv) (by omega) (by rw [hzs, hdl]; exact hmul), hW1, hzs, spl_eq _ _ _ (by rw [hdl, Array.length_toList (xs := cur)]; exact hmul)]
    rw [show i + (n - (i + 1)) = n - 1 by omega]
  have hB1 : Blk W1 b (spl cur.toList (i * 9) (rows.drop (i + 1)).flatten).toArray 97 := by
    rw [hW1]
    exact setRow_heap w.drew b cur _ 97 _ hcur.drew
  have hO1 : Off [b] w W1 := by rw [hW1]; exact ((Off.refl [b] w).drew).trans (off_setRow _) (by simp)
  have hl1 : (spl cur.toList (i * 9) (rows.drop (i + 1)).flatten).length = cur.size := by rw [spl_length]; simp
  have hzl : (Builtin.zeroCells z.cells (n - (n - 1))).toList.length = 9 := by rw [zero_cells_length, hzc, show n - (n - 1) = 1 by omega]
  have hlast : (n - 1) * 9 + 9 ≤ cur.size := by rw [← Nat.succ_mul, show (n - 1).succ = n by omega]; exact hnk
  have hcl : ∀ ty, (Builtin.clear_ #[27] ty #[.slice (some ⟨b, (n - 1) * 9, none⟩) (n - (n - 1)) (c - (n - 1))]).run Try.prog W1 = .ok (.tuple #[]) (W1.setCells b ((n - 1) * 9) (Builtin.zeroCells z.cells (n - (n - 1))).toList) := fun ty =>
    run_clear_k W1 27 97 ty z Try.underlying27 hzv (hz1 _) b _ _ (by omega) (fun j hj => by rw [hB1.cell _ ((spl cur.toList (i * 9) (rows.drop (i + 1)).flatten)[(n - 1) * 9 + j]'(by rw [hl1]; rw [hzl] at hj; omega)) (by simp)]; rfl) (fun j hj => hB1.free _)
  obtain ⟨W2, hW2⟩ : ∃ W2, W2 = W1.setCells b ((n - 1) * 9) (Builtin.zeroCells z.cells (n - (n - 1))).toList := ⟨_, rfl⟩
  have hB2 := blk_setCells (Builtin.zeroCells z.cells (n - (n - 1))).toList ((n - 1) * 9) _ _ hB1
  rw [← hW2] at hcl hB2
  have hO2 : Off [b] w W2 := by rw [hW2]; exact hO1.trans (off_setCells _ _ _) (by simp)
  have HF : Hid ((rA (some ⟨b, 0, none⟩) c 97 9 (cutAt rows i)).holds W2 ∧ Off [b] w W2) := by
    refine Lib.hid ⟨rA_of_blk hB2 (cutAt_length (by omega)) (by omega) hcm (by simp [spl_length, hcz]) ?_ (hwf.cutAt i), hO2⟩
    have := cut_list (Z := (Builtin.zeroCells z.cells (n - (n - 1))).toList) (cur := cur.toList) hwf.len (i := i) (by omega) (by rw [hn, Array.length_toList (xs := cur)]; exact hnk) (by rw [hn]; exact htk) hzl
    rw [hn] at this ⊢
    simpa using this
  have hw1 : IntKind.i64.wrap ((i : Int) + 1) = (i : Int) + 1 := by rw [IntKind.wrap_i64]; unfold maxLen at hcm; omega
  have hb1 : (0 : Int) ≤ (i : Int) + 1 := by omega
  have hin : i ≤ n := by omega
  have hin1 : (i : Int) + 1 ≤ (n : Int) := by omega
  have hii : (i : Int) ≤ (i : Int) + 1 := by omega
  have htn : ((i : Int) + 1).toNat = i + 1 := by omega
  have hne : ¬ ((i : Int) = (i : Int) + 1) := by omega
  have hc1 : i ≤ c := by omega
  have hc2 : i + 1 ≤ c := by omega
  have hc3 : ¬ (c = n - 1) := by omega
  have hc4 : n - 1 ≤ n := by omega
  have hn1 : ((n : Int) - 1).toNat = n - 1 := by omega
  clear hsrc hcur hB1 hO1 hl1 hzl hlast hdl hmul hnk hcz htk hW1 hW2 hB2 hO2 hzv hz1 hzc hi0 hzs hsz hrl
  by_cases hcc : c = i + 1
  · have hni := Lib.hid (show n = i + 1 by omega)
    subst hcc
    go_enter Try.func101, Try.ntmps101
    go_wp2_with fail
    go_region_law_o (go_loud (refine step_append_runI rfl _ _ 27 27 rfl (.slice (some ⟨b, 0, none⟩) i (i + 1)) (.slice (some ⟨b, 0, none⟩) (n - (i + 1)) (i + 1 - (i + 1))) (by simp [Act.eval, Act.put]) (by simp [Act.eval, Act.put]; omega) (hap _ _ (fun h => absurd h (by omega))) ?_))
    go_wp2_with (at_builtin; refine wpList_clear_runI rfl _ 27 rfl _ rfl (hcl _) ?_)
    go_ret
    exact ⟨rfl, HF.out⟩
  · go_enter Try.func101, Try.ntmps101
    go_wp2_with fail
    go_region_law_o (go_loud (refine step_append_runI rfl _ _ 27 27 rfl (.slice (some ⟨b, 0, none⟩) i c) (.slice (some ⟨b, (i + 1) * 9, none⟩) (n - (i + 1)) (c - (i + 1))) (by simp [Act.eval, Act.put]) (by simp [Act.eval, Act.put]) (hap _ _ (fun _ => rfl)) ?_))
    go_wp2_with (at_builtin; refine wpList_clear_runI rfl _ 27 rfl _ rfl (hcl _) ?_)
    go_ret
    exact ⟨rfl, HF.out⟩

end Go.Proofs.Ytnanihffljpdbaa.Sc6

/- Where a key is, in pairs by rising keys. -/
namespace Go.Proofs.Ytnanihffljpdbaa.Sc6
set_option linter.unusedVariables false
set_option linter.unusedSimpArgs false
open Go.RowKit Go.Proofs.Ytnanihffljpdbaa.Mem

theorem tyshelf_Pair_int__api_Call_ : TyI Try.prog 97 9 true [.int .i64 0, .int .i64 0, .int .i64 0, .int .i64 0, .int .i64 0, .int .i64 0, .int .i64 0, .int .i64 0, .int .i64 0] := ⟨by kernel_rfl, by kernel_rfl, by kernel_rfl⟩
theorem tyint : TyI Try.prog 3 1 false [.int .i64 0] := ⟨by kernel_rfl, by kernel_rfl, by kernel_rfl⟩

abbrev KeyV := Int
def ltK (x y : Int) : Bool := decide (x < y)
def cmpV (x y : Int) : Int := if ltK x y = true then -1 else if decide (y < x) = true then 1 else 0
theorem cmp_lt (x y : Int) : cmpV x y < 0 ↔ ltK x y = true := by
  unfold cmpV ltK
  simp only [decide_eq_true_eq]
  repeat' split
  all_goals first | omega | (simp; done) | (simp; omega)
theorem cmp_eq (x y : Int) : cmpV x y = 0 ↔ x = y := by
  unfold cmpV ltK
  simp only [decide_eq_true_eq]
  repeat' split
  all_goals first | omega | (simp; done) | (simp; omega)
theorem ltK_trans {x y z : Int} (h1 : ltK x y = true) (h2 : ltK y z = true) : ltK x z = true := by
  unfold ltK at *
  simp at *
  omega
theorem ltK_irrefl (x : Int) : ltK x x = false := by simp [ltK]
theorem ltK_total {x y : Int} (h1 : ltK x y = false) (h2 : x ≠ y) : ltK y x = true := by
  unfold ltK at *
  simp at *
  omega

/-- a pair, as it lies in memory -/
abbrev PairV := KeyV × Ca.CallV
def rowOf (p : PairV) : List Value := [.int .i64 p.1, .int .i64 p.2.id, .int .i64 p.2.kind, .int .i64 p.2.src, .int .i64 p.2.dst, .int .i64 p.2.car, .int .i64 p.2.state, .int .i64 p.2.owner, .int .i64 p.2.born]
theorem row_wf (ps : List PairV) : Wf 9 (ps.map rowOf) := by
  intro r hr
  obtain ⟨p, _, rfl⟩ := List.mem_map.1 hr
  exact ⟨rfl, by simp [rowOf, Value.oneCell']⟩
def Sorted (ps : List PairV) : Prop := ps.Pairwise fun a b => ltK a.1 b.1 = true
def posV (k : KeyV) (ps : List PairV) : Nat := ps.countP fun p => ltK p.1 k
def isV (k : KeyV) (ps : List PairV) : Bool := match ps[posV k ps]? with
  | some p => cmpV p.1 k == 0
  | none => false
theorem count_at {α : Type} (f : α → Bool) (l : List α) (i : Nat) (hi : i ≤ l.length) (h1 : ∀ x ∈ l.take i, f x = true) (h2 : ∀ x ∈ l.drop i, f x = false) : l.countP f = i := by
  rw [← List.take_append_drop i l, List.countP_append, List.countP_eq_length.2 h1, List.countP_eq_zero.2 (fun x hx => by simp [h2 x hx]), List.length_take]
  omega
theorem sorted_left {ps : List PairV} (hs : Sorted ps) {k : KeyV} {m : Nat} (hm : m < ps.length) (h : ltK ps[m].1 k = true) : ∀ x ∈ ps.take (m + 1), ltK x.1 k = true := by
  intro x hx
  obtain ⟨i, hi, rfl⟩ := List.getElem_of_mem hx
  rw [List.length_take] at hi
  rw [List.getElem_take]
  rcases Nat.lt_or_ge i m with h1 | h1
  · exact ltK_trans (List.pairwise_iff_getElem.1 hs i m (by omega) hm h1) h
  · obtain rfl : i = m := by omega
    exact h
theorem sorted_right {ps : List PairV} (hs : Sorted ps) {k : KeyV} {m : Nat} (hm : m < ps.length) (h : ltK ps[m].1 k = false) : ∀ x ∈ ps.drop m, ltK x.1 k = false := by
  intro x hx
  obtain ⟨i, hi, rfl⟩ := List.getElem_of_mem hx
  rw [List.getElem_drop]
  rw [List.length_drop] at hi
  rcases Nat.eq_zero_or_pos i with rfl | h1
  · exact h
  · cases hc : ltK ps[m + i].1 k with
    | false => rfl
    | true =>
      have := ltK_trans (List.pairwise_iff_getElem.1 hs m (m + i) hm (by omega) (by omega)) hc
      rw [h] at this
      cases this
theorem isNaN (x : KeyV) (w : World) : Calls Try.prog 117 #[.int .i64 x] w fun e w' => e = .returned (.bool false) ∧ w' = w := by
  go_enter Try.func117, Try.ntmps117
  go_wp2
  go_ret
  exact ⟨by simp, rfl⟩
set_option maxRecDepth 20000 in
theorem compareC (x y : KeyV) (w : World) : Calls Try.prog 110 #[.int .i64 x, .int .i64 y] w fun e w' => e = .returned (.int .i64 (cmpV x y)) ∧ w' = w := by
  go_enter Try.func110, Try.ntmps110
  go_wp2_with (go_at_call 117; refine (isNaN _ _).mono ?_; rintro e w5 ⟨rfl, rfl⟩)
  all_goals
    go_ret
    exact ⟨by first | (simp_all [cmpV, ltK]; done) | (simp_all [cmpV, ltK]; have hx : ∀ a b : Int, a ≤ b → b ≤ a → (0 : Int) = if b < a then -1 else if a < b then 1 else 0 := (fun a b h1 h2 => by rw [if_neg (by omega), if_neg (by omega)]); exact hx _ _ (by assumption) (by assumption)), rfl⟩
set_option maxRecDepth 20000 in
set_option maxHeartbeats 16000000 in
theorem find1C (p : PairV) (k : KeyV) (w : World) : Calls Try.prog 109 #[.agg #[.int .i64 p.1, .int .i64 p.2.id, .int .i64 p.2.kind, .int .i64 p.2.src, .int .i64 p.2.dst, .int .i64 p.2.car, .int .i64 p.2.state, .int .i64 p.2.owner, .int .i64 p.2.born], .int .i64 k] w fun e w' => e = .returned (.int .i64 (cmpV p.1 k)) ∧ Off [] w w' := by
  have H := Lib.hid (Hp.start [] w)
  go_enter Try.func109, Try.ntmps109
  go_wp2_with (first
    | ((with_reducible apply g_mem); (focus (exact rfl)); first
      | ((with_reducible apply hpN_box 97 2 H); (focus (exact rfl)); (focus (exact rfl)); (focus (exact rfl)); (focus (exact rfl)); (focus (exact rfl)); intro w5 b2 H5; clear H; have H := H5; clear H5)
      | ((with_reducible apply hpA_load1 tyint H); (focus (exact rfl)); (focus (exact rfl)); (focus (first | (exact rfl) | (simp [Region.wanted]; done) | (simp only [Region.wanted]; go_simp; done))); (focus (repeat (first | exact List.Mem.head _ | apply List.Mem.tail))); (focus ((try simp only [List.getElem?_cons_zero, List.getElem?_cons_succ]); exact rfl))))
    | (go_at_call 110; (with_reducible refine (compareC _ _ _).mono ?_); rintro e w5 ⟨rfl, rfl⟩))
  go_ret
  exact ⟨rfl, H.out.off⟩
set_option maxRecDepth 20000 in
set_option maxHeartbeats 16000000 in
theorem searchC (a : Option Addr) (c : Nat) (ps : List PairV) (k : KeyV) (w : World) (h : (rS a c 9 (ps.map rowOf)).holds w) (hs : Sorted ps) (hb : ps.length ≤ 1000000) :
    Calls Try.prog 108 #[.slice a ps.length c, .int .i64 k, .func (.func 109) #[] #[]] w fun e w' => e = .returned (.tuple #[.int .i64 (posV k ps), .bool (isV k ps)]) ∧ Off [] w w' := by
  have H0 := Lib.hid (Hp.start [] w)
  have H := hp_old H0 h (by decide)
  clear H0
  have HN := Lib.hid (fun i (hi : i < ps.length) => some_of_row h (i := i) (by simpa using hi))
  clear h
  generalize hn : ps.length = n at *
  go_enter Try.func108, Try.ntmps108
  go_wp2_with fail
  go_loopw [9, 10] (fun vi vj wr => ∃ i j : Nat, i ≤ j ∧ j ≤ n ∧ vi = .int .i64 i ∧ vj = .int .i64 j ∧ Hid (∀ x ∈ ps.take i, ltK x.1 k = true) ∧ Hid (∀ x ∈ ps.drop j, ltK x.1 k = false) ∧ Hid (Hp [] w wr [rS a c 9 (ps.map rowOf)])) (fun vi vj _ => (intOf vj - intOf vi).toNat)
  case atStart => exact ⟨0, n, by omega, by omega, rfl, rfl, Lib.hid (by simp), Lib.hid (by simp [← hn]), H⟩
  case round =>
    clear H
    obtain ⟨i, j, hij, hj, rfl, rfl, h1, h2, H⟩ := hrel
    by_cases hlt : i < j
    · obtain ⟨y, hy⟩ := HN.out ((i + j) / 2) (by omega)
      obtain ⟨p, hp⟩ : ∃ p, ps[(i + j) / 2]? = some p := ⟨_, List.getElem?_eq_getElem (by omega)⟩
      have hml : (i + j) / 2 < ps.length := by omega
      have hpe : ps[(i + j) / 2] = p := by rw [List.getElem?_eq_getElem hml] at hp; injection hp
      have hrow : (ps.map rowOf)[(i + j) / 2]? = some [.int .i64 p.1, .int .i64 p.2.id, .int .i64 p.2.kind, .int .i64 p.2.src, .int .i64 p.2.dst, .int .i64 p.2.car, .int .i64 p.2.state, .int .i64 p.2.owner, .int .i64 p.2.born] := by rw [List.getElem?_map, hp]; rfl
      have HR := Lib.hid hrow
      have hL : ltK p.1 k = true → ∀ x ∈ ps.take ((i + j) / 2 + 1), ltK x.1 k = true := fun h => sorted_left hs hml (by rw [hpe]; exact h)
      have hG : ltK p.1 k = false → ∀ x ∈ ps.drop ((i + j) / 2), ltK x.1 k = false := fun h => sorted_right hs hml (by rw [hpe]; exact h)
      have HL := Lib.hid hL
      have HG := Lib.hid hG
      obtain rfl := hy
      clear hrow hp hpe hL hG
      rcases Bool.eq_false_or_eq_true (decide (cmpV p.1 k < 0)) with q | q
      · go_wp2_with (first
          | ((with_reducible apply g_mem); (focus (exact rfl)); (with_reducible apply hpS_load tyshelf_Pair_int__api_Call_ H); (focus (exact rfl)); (focus (exact rfl)); (focus (first | (exact rfl) | (simp [Region.wanted]; done) | (simp only [Region.wanted]; go_simp; done))); (focus (repeat (first | exact List.Mem.head _ | apply List.Mem.tail))); (focus (exact HR.out)); (focus (exact rfl)))
          | (go_at_call 109; (refine (find1C p k _).mono ?_); rintro e w5 ⟨rfl, ho⟩; have H5 := Lib.hid (H.out.quiet ho); clear H ho; have H := H5; clear H5))
        go_roundw
        case rel => exact ⟨(i + j) / 2 + 1, j, by omega, hj, by go_num, rfl, Lib.hid (HL.out ((cmp_lt _ _).1 (by simpa using q))), h2, H⟩
        case measure => simp [intOf]; omega
      · go_wp2_with (first
          | ((with_reducible apply g_mem); (focus (exact rfl)); (with_reducible apply hpS_load tyshelf_Pair_int__api_Call_ H); (focus (exact rfl)); (focus (exact rfl)); (focus (first | (exact rfl) | (simp [Region.wanted]; done) | (simp only [Region.wanted]; go_simp; done))); (focus (repeat (first | exact List.Mem.head _ | apply List.Mem.tail))); (focus (exact HR.out)); (focus (exact rfl)))
          | (go_at_call 109; (refine (find1C p k _).mono ?_); rintro e w5 ⟨rfl, ho⟩; have H5 := Lib.hid (H.out.quiet ho); clear H ho; have H := H5; clear H5))
        go_roundw
        case rel => exact ⟨i, (i + j) / 2, by omega, by omega, rfl, by go_num, h1, Lib.hid (HG.out (by cases hc : ltK p.1 k with | false => rfl | true => exact absurd ((cmp_lt _ _).2 hc) (by simpa using q))), H⟩
        case measure => simp [intOf]; omega
    · obtain rfl : i = j := by omega
      have hpos : posV k ps = i := count_at _ ps i (by omega) h1.out h2.out
      rcases Nat.lt_or_ge i n with hin | hin
      · obtain ⟨y, hy⟩ := HN.out i (by omega)
        obtain ⟨p, hp⟩ : ∃ p, ps[i]? = some p := ⟨_, List.getElem?_eq_getElem (by omega)⟩
        have HR := Lib.hid (show (ps.map rowOf)[i]? = some [.int .i64 p.1, .int .i64 p.2.id, .int .i64 p.2.kind, .int .i64 p.2.src, .int .i64 p.2.dst, .int .i64 p.2.car, .int .i64 p.2.state, .int .i64 p.2.owner, .int .i64 p.2.born] by rw [List.getElem?_map, hp]; rfl)
        have HI := Lib.hid (show isV k ps = (cmpV p.1 k == 0) by unfold isV; rw [hpos, hp])
        obtain rfl := hy
        clear hp
        go_wp2_with (first
          | ((with_reducible apply g_mem); (focus (exact rfl)); (with_reducible apply hpS_load tyshelf_Pair_int__api_Call_ H); (focus (exact rfl)); (focus (exact rfl)); (focus (first | (exact rfl) | (simp [Region.wanted]; done) | (simp only [Region.wanted]; go_simp; done))); (focus (repeat (first | exact List.Mem.head _ | apply List.Mem.tail))); (focus (exact HR.out)); (focus (exact rfl)))
          | (go_at_call 109; (refine (find1C p k _).mono ?_); rintro e w5 ⟨rfl, ho⟩; have H5 := Lib.hid (H.out.quiet ho); clear H ho; have H := H5; clear H5))
        go_ret2
        exact ⟨by rw [HI.out, hpos]; rfl, H.out.off⟩
      · have HI := Lib.hid (show isV k ps = false by unfold isV; rw [hpos, List.getElem?_eq_none (by omega)])
        go_wp2_with fail
        go_ret2
        exact ⟨by rw [HI.out, hpos]; rfl, H.out.off⟩

end Go.Proofs.Ytnanihffljpdbaa.Sc6
