/- What a joint tells is the document's, with resets between: the walk of the statement. -/
import Derived.Test.YtfjkcegdodpgdaaProg
import Derived.Below
import Derived.WalkKit
import Derived.KernelRfl
import Derived.RowKit3
import Derived.Deep.LoopGhost
import Derived.Deep.QuietTactic
import Derived.BigQuiet
import Derived.WideLaws
import Derived.Deep.DeepCutAuto
import Derived.Deep.CutBlock
import Derived.Lib.Hide
import Derived.Laws.BitsLemmas
import Derived.Laws.Bits64
import Derived.Laws.BitsAllLaws
import Derived.IntWalk
import Derived.Outline
import Derived.WalkSpells
import Derived.Test.YtfjkcegdodpgdaaMem
import Derived.Test.YtfjkcegdodpgdaaJo2
import Derived.Test.YtfjkcegdodpgdaaMemS
namespace Go.Proofs.Ytfjkcegdodpgdaa.Jo
open Go.RowKit Go.Proofs.Ytfjkcegdodpgdaa.Mem Go.Proofs.Ytfjkcegdodpgdaa.Pk Go.Proofs.Ytfjkcegdodpgdaa.Fr

theorem _root_.Go.Proofs.Ytfjkcegdodpgdaa.Mem.boolsIn_mk {w : World} {x : Addr} {len cap : Nat} {B : Nat → Bool} (hl : len ≤ cap) (hc : ∀ i, i < cap → w.cell? (x.add i) = some (.bool (B i))) : BoolsIn w (some x) len cap ((List.range len).map B) := by
  refine ⟨by simp, .inr ⟨x, cap, by simp, fun i hi => ?_⟩⟩
  have hi' : i < len := by simpa using hi
  rw [hc i (by omega)]
  simp
theorem stOf_nil : stOf ⟨#[]⟩ = zero := by
  rw [stOf_eq]
  rfl
theorem cut_nil : (cutV ⟨#[]⟩).1.length = 0 := rfl
set_option maxRecDepth 20000 in
set_option maxHeartbeats 6400000 in
theorem exact_main (a : Option Addr) (len cap : Nat) (ps : List ByteArray) (a2 : Option Addr) (len2 cap2 : Nat) (rs : List Bool) (w : World) (h : StrsIn w a len cap ps) (h2 : BoolsIn w a2 len2 cap2 rs) :
    Calls Try.prog 7 #[.slice a len cap, .slice a2 len2 cap2] w fun e w' => e = .returned (.bool true) ∧ Below w.heap.size w w' := by
  obtain ⟨rfl, _⟩ := id h
  obtain ⟨rfl, _⟩ := id h2
  have HC := Lib.hid h.cells
  have HB := Lib.hid h2.cells
  clear h h2
  go_enter Try.func7, Try.ntmps7
  go_wp2_with (first
    | (go_at_call 17; refine (awake _).mono ?_; rintro e w1 ⟨rfl, ho1⟩)
    | (go_at_call 18; (with_reducible refine (jNew w1).mono ?_); rintro e w2 ⟨b, rfl, hb2, hj2, ho2⟩))
  have hwb : w.heap.size ≤ b := Nat.le_trans ho1.size hb2
  have hb2l := Blk.lt hj2
  have hwu0 : w.heap.size ≤ w2.heap.size := by omega
  have hR0 : RAt (w2.alloc (.cells #[.string ⟨#[]⟩, .int .i64 0] 49)) w2.heap.size ⟨#[]⟩ (cutV ⟨#[]⟩).1.length := blk_new _ _ _
  have hJ0 : JAt (w2.alloc (.cells #[.string ⟨#[]⟩, .int .i64 0] 49)) b (stOf ⟨#[]⟩) := by rw [stOf_nil]; exact Blk.alloc hj2 _
  have hof0 : Off [] w (w2.alloc (.cells #[.string ⟨#[]⟩, .int .i64 0] 49)) := (ho1.trans ho2 (by simp)).alloc _
  have H0 := Lib.hid (And.intro hJ0 (And.intro hR0 hof0))
  have hne0 : b ≠ w2.heap.size := by omega
  clear hR0 hJ0 hof0 ho1 ho2 hj2 hb2
  generalize w2.alloc (.cells #[.string ⟨#[]⟩, .int .i64 0] 49) = wz at *
  generalize w2.heap.size = bz at *
  go_loopw [6, 7] (fun vu vi wr => ∃ (k : Nat) (A : ByteArray) (bu : Nat), k ≤ ps.length ∧ k ≤ 30 ∧ vi = .int .i64 k ∧ vu = .pointer (some ⟨bu, 0, none⟩) ∧ JAt wr b (stOf A) ∧ RAt wr bu A (cutV A).1.length ∧ b ≠ bu ∧ w.heap.size ≤ b ∧ w.heap.size ≤ bu ∧ A.size ≤ 512 * k ∧ Off [] w wr) (fun _ vi _ => ps.length - (intOf vi).toNat)
  case atStart => exact ⟨0, ⟨#[]⟩, bz, Nat.zero_le _, Nat.zero_le _, rfl, rfl, H0.out.1, H0.out.2.1, hne0, hwb, hwu0, Nat.zero_le _, H0.out.2.2⟩
  case round =>
    clear hwb
    obtain ⟨k, A, bu, hk, hk30, rfl, rfl, hj, hr, hne, hwb, hwu, hAz, hof⟩ := hrel
    clear H0
    by_cases hlt : k < ps.length ∧ k < 30
    · obtain ⟨hlt, hlt30⟩ := hlt
      have hltd : decide ((k : Int) < 30) = true := decide_eq_true (by omega)
      obtain ⟨x, rfl, hx0⟩ := HC.out k hlt
      have hx : wr.cell? (x.add k) = some (.string ps[k]) := (hof.cell (lt_of_cell hx0) (by simp)).trans hx0
      have hxw := lt_of_cell hx0
      rw [add_block] at hxw
      clear hx0
      generalize ps[k] = p at *
      by_cases hp : p.size ≤ 512
      · have dp : decide ((512 : Int) < (p.size : Int)) = false := decide_eq_false (by omega)
        by_cases hk2 : k < rs.length
        · obtain ⟨y, rfl, hy0⟩ := HB.out k hk2
          have hy : wr.cell? (y.add k) = some (.bool rs[k]) := (hof.cell (lt_of_cell hy0) (by simp)).trans hy0
          have dk2 : (k : Int) < (rs.length : Int) := by omega
          clear hy0
          generalize rs[k] = rk at *
          cases rk
          · skip
            cases hbad : (stOf A).bad
            · go_wp2_with fail
              have hxc := hx
              clear hx
              generalize wr = wc at *
              have hfa := feed_all A p hbad
              have kJ := Lib.hid (jFeed b (stOf A) p wc hj (by have := stOf_left A; omega) (by omega) (by have := stOf_seen A; have := cut_len A; omega))
              rw [hfa.1, hfa.2.1] at kJ
              have kR := Lib.hid (fun w' h => rFeed bu A p w' h (by omega) hbad)
              have kS := Lib.hid (fun n w' h => rState bu (A ++ p) n w' h (by rw [ByteArray.size_append]; omega))
              have hsn := stOf_seen (A ++ p)
              have hsl := stOf_left (A ++ p)
              have hcl := cut_len (A ++ p)
              have hST := Lib.hid (show stOf (A ++ p) = stOf (A ++ p) from rfl)
              have hnl := (feed_size (stOf A) p).2.2
              have hsl0 := stOf_left A
              rw [ByteArray.size_append] at hcl
              generalize (feedV (stOf A) p).2.1 = nw at *
              generalize hLL : (cutV (A ++ p)).1 = L2 at *
              obtain ⟨⟨sl, sb, ss⟩, hS⟩ : ∃ q, stOf (A ++ p) = q := ⟨_, rfl⟩
              rw [hS] at kJ kR kS hsn hsl
              dsimp only at kJ kR kS hsn hsl
              subst hsn
              have hd5 : decide (2053 < sl.size) = false := decide_eq_false (by omega)
              have HS := Lib.hid hS
              have HLL := Lib.hid hLL
              have hbsz := Blk.lt hj
              have hbusz := Blk.lt hr
              clear hS hLL hST hfa
              refine kJ.out.mono ?_
              rintro e w3 ⟨v1, rfl, hj3, ho3, hown3⟩
              have hr3 : RAt w3 bu A (cutV A).1.length := ho3.blk hr (by simpa using hne.symm)
              obtain ⟨a1, c1, rfl⟩ := own_form hown3
              have hx3 : w3.cell? (x.add k) = some (.string p) := (ho3.cell (lt_of_cell hxc) (by rw [add_block]; simp; omega)).trans hxc
              clear kJ
              go_wp2_with (go_at_call 25; refine (kR.out w3 hr3).mono ?_; rintro e w4 ⟨v2, rfl, hr4, ho4, hown4⟩; obtain ⟨a2, c2, rfl⟩ := own_form hown4)
              have hj4 : JAt w4 b ⟨sl, sb, L2.length⟩ := ho4.blk hj3 (by simpa using hne)
              have hown34 := owns_off hown3 ho4 (fun q hq hm => by have h9 := (hown3.lt q (by simpa using hq)).1; simp only [List.mem_singleton] at hm; omega)
              refine (kS.out _ w4 hr4).mono ?_
              rintro e w5 ⟨v3, rfl, ho5, hown5⟩
              obtain ⟨a3, c3, rfl⟩ := own_form hown5
              have hj5 : JAt w5 b ⟨sl, sb, L2.length⟩ := ho5.blk hj4 (by simp)
              have hr5 : RAt w5 bu (A ++ p) L2.length := ho5.blk hr4 (by simp)
              have r1 : Reads w5 (.slice a1 nw.length c1) (nw.map .string) := (reads_owns hown34).off ho5 (by simp)
              have r2 : Reads w5 (.slice a2 nw.length c2) (nw.map .string) := (reads_owns hown4).off ho5 (by simp)
              clear kR kS
              cases sb
              all_goals
                go_wp2_with (first
                  | (go_at_call 20; refine (same _ _ nw nw w5 r1 r2 (by omega)).mono ?_; rintro e w6 ⟨rfl, ho6⟩; rw [decide_eq_true (show nw = nw from rfl)]; have hj6 : JAt w6 b _ := ho6.blk hj5 (by simp); have hr6 : RAt w6 bu (A ++ p) L2.length := ho6.blk hr5 (by simp))
                  | (go_at_call 21; (with_reducible refine (jBad b _ w6 hj6).mono ?_); rintro e w' ⟨rfl, rfl⟩)
                  | (go_at_call 22; (with_reducible refine (jLeft b _ w6 hj6).mono ?_); rintro e w' ⟨rfl, rfl⟩)
                  | (go_at_call 23; (with_reducible refine (jSeen b _ w6 hj6).mono ?_); rintro e w' ⟨rfl, rfl⟩))
                go_roundw
                case rel => exact ⟨k + 1, A ++ p, bu, by omega, by omega, by go_num, rfl, by rw [HS.out]; exact hj6, by rw [HLL.out]; exact hr6, hne, hwb, hwu, by rw [ByteArray.size_append]; omega, (((hof.fresh ho3 (by simpa using hwb)).fresh ho4 (by simpa using hwu)).trans ho5 (by simp)).trans ho6 (by simp)⟩
                case measure => simp [intOf] <;> omega
            · go_wp2_with fail
              have hxc := hx
              clear hx
              generalize wr = wc at *
              have kJ := jFeed_bad b (stOf A) p wc hj hbad
              have kR := Lib.hid (fun w' h => rFeed_bad bu A p (cutV A).1.length w' h (by omega) hbad)
              have kS := Lib.hid (fun n w' h => rState bu A n w' h (by omega))
              have hsn := stOf_seen A
              have hsl := stOf_left A
              have hcl := cut_len A
              generalize hLL : (cutV A).1 = L2 at *
              obtain ⟨⟨sl, sb, ss⟩, hS⟩ : ∃ q, stOf A = q := ⟨_, rfl⟩
              rw [hS] at kS hsn hsl hj hbad
              dsimp only at kS hsn hsl hbad
              subst hsn
              subst hbad
              have hd5 : decide (2053 < sl.size) = false := decide_eq_false (by omega)
              have HS := Lib.hid hS
              have HLL := Lib.hid hLL
              clear hS hLL
              refine kJ.mono ?_
              rintro e w3 ⟨rfl, rfl⟩
              clear kJ
              go_wp2_with (go_at_call 25; refine (kR.out wc hr).mono ?_; rintro e w4 ⟨rfl, ho4⟩)
              have hj4 : JAt w4 b ⟨sl, true, L2.length⟩ := ho4.blk hj (by simp)
              have hr4 : RAt w4 bu A L2.length := ho4.blk hr (by simp)
              refine (kS.out _ w4 hr4).mono ?_
              rintro e w5 ⟨v3, rfl, ho5, hown5⟩
              obtain ⟨a3, c3, rfl⟩ := own_form hown5
              have hj5 : JAt w5 b ⟨sl, true, L2.length⟩ := ho5.blk hj4 (by simp)
              have hr5 : RAt w5 bu A L2.length := ho5.blk hr4 (by simp)
              clear kR kS
              go_wp2_with (first
                | (go_at_call 20; refine (same _ _ [] [] w5 (.inl ⟨rfl, rfl⟩) (.inl ⟨rfl, rfl⟩) (by simp)).mono ?_; rintro e w6 ⟨rfl, ho6⟩; rw [decide_eq_true (show ([] : List ByteArray) = [] from rfl)]; have hj6 : JAt w6 b _ := ho6.blk hj5 (by simp); have hr6 : RAt w6 bu A L2.length := ho6.blk hr5 (by simp))
                | (go_at_call 21; (with_reducible refine (jBad b _ w6 hj6).mono ?_); rintro e w' ⟨rfl, rfl⟩)
                | (go_at_call 22; (with_reducible refine (jLeft b _ w6 hj6).mono ?_); rintro e w' ⟨rfl, rfl⟩)
                | (go_at_call 23; (with_reducible refine (jSeen b _ w6 hj6).mono ?_); rintro e w' ⟨rfl, rfl⟩))
              go_roundw
              case rel => exact ⟨k + 1, A, bu, by omega, by omega, by go_num, rfl, by rw [HS.out]; exact hj6, by rw [HLL.out]; exact hr6, hne, hwb, hwu, by omega, ((hof.trans ho4 (by simp)).trans ho5 (by simp)).trans ho6 (by simp)⟩
              case measure => simp [intOf] <;> omega
          · skip
            have kR0 := jReset b (stOf A) wr hj
            go_wp2_with (go_at_call 24; refine kR0.mono ?_; rintro e w2 ⟨rfl, hj2', ho2'⟩; have hx2 : w2.cell? (x.add k) = some (.string p) := (ho2'.cell (lt_of_cell hx) (by rw [add_block]; simp; omega)).trans hx; have hxc : (w2.alloc (.cells #[.string ⟨#[]⟩, .int .i64 0] 49)).cell? (x.add k) = some (.string p) := (((Off.refl [] w2).alloc _).cell (lt_of_cell hx2) (by simp)).trans hx2)
            have hof2 := (hof.fresh ho2' (by simpa using hwb)).alloc (.cells #[.string ⟨#[]⟩, .int .i64 0] 49)
            have hr : RAt (w2.alloc (.cells #[.string ⟨#[]⟩, .int .i64 0] 49)) w2.heap.size ⟨#[]⟩ (cutV ⟨#[]⟩).1.length := blk_new _ _ _
            have hj : JAt (w2.alloc (.cells #[.string ⟨#[]⟩, .int .i64 0] 49)) b (stOf ⟨#[]⟩) := by rw [stOf_nil]; exact Blk.alloc hj2' _
            have hne : b ≠ w2.heap.size := by have := Blk.lt hj2'; omega
            have hwu : w.heap.size ≤ w2.heap.size := by have := Blk.lt hj2'; omega
            have hbad : (stOf ⟨#[]⟩).bad = false := by rw [stOf_nil]; rfl
            have hAz : (⟨#[]⟩ : ByteArray).size ≤ 512 * k := Nat.zero_le _
            have hof := hof2
            clear hof2 hj2' ho2' hx2 hx kR0
            generalize w2.alloc (.cells #[.string ⟨#[]⟩, .int .i64 0] 49) = wc at *
            generalize w2.heap.size = bu at *
            obtain ⟨A, hA⟩ : ∃ A : ByteArray, (⟨#[]⟩ : ByteArray) = A := ⟨_, rfl⟩
            rw [hA] at hr hj hbad hAz
            clear hA
            have hfa := feed_all A p hbad
            have kJ := Lib.hid (jFeed b (stOf A) p wc hj (by have := stOf_left A; omega) (by omega) (by have := stOf_seen A; have := cut_len A; omega))
            rw [hfa.1, hfa.2.1] at kJ
            have kR := Lib.hid (fun w' h => rFeed bu A p w' h (by omega) hbad)
            have kS := Lib.hid (fun n w' h => rState bu (A ++ p) n w' h (by rw [ByteArray.size_append]; omega))
            have hsn := stOf_seen (A ++ p)
            have hsl := stOf_left (A ++ p)
            have hcl := cut_len (A ++ p)
            have hST := Lib.hid (show stOf (A ++ p) = stOf (A ++ p) from rfl)
            have hnl := (feed_size (stOf A) p).2.2
            have hsl0 := stOf_left A
            rw [ByteArray.size_append] at hcl
            generalize (feedV (stOf A) p).2.1 = nw at *
            generalize hLL : (cutV (A ++ p)).1 = L2 at *
            obtain ⟨⟨sl, sb, ss⟩, hS⟩ : ∃ q, stOf (A ++ p) = q := ⟨_, rfl⟩
            rw [hS] at kJ kR kS hsn hsl
            dsimp only at kJ kR kS hsn hsl
            subst hsn
            have hd5 : decide (2053 < sl.size) = false := decide_eq_false (by omega)
            have HS := Lib.hid hS
            have HLL := Lib.hid hLL
            have hbsz := Blk.lt hj
            have hbusz := Blk.lt hr
            clear hS hLL hST hfa
            refine kJ.out.mono ?_
            rintro e w3 ⟨v1, rfl, hj3, ho3, hown3⟩
            have hr3 : RAt w3 bu A (cutV A).1.length := ho3.blk hr (by simpa using hne.symm)
            obtain ⟨a1, c1, rfl⟩ := own_form hown3
            have hx3 : w3.cell? (x.add k) = some (.string p) := (ho3.cell (lt_of_cell hxc) (by rw [add_block]; simp; omega)).trans hxc
            clear kJ
            go_wp2_with (go_at_call 25; refine (kR.out w3 hr3).mono ?_; rintro e w4 ⟨v2, rfl, hr4, ho4, hown4⟩; obtain ⟨a2, c2, rfl⟩ := own_form hown4)
            have hj4 : JAt w4 b ⟨sl, sb, L2.length⟩ := ho4.blk hj3 (by simpa using hne)
            have hown34 := owns_off hown3 ho4 (fun q hq hm => by have h9 := (hown3.lt q (by simpa using hq)).1; simp only [List.mem_singleton] at hm; omega)
            refine (kS.out _ w4 hr4).mono ?_
            rintro e w5 ⟨v3, rfl, ho5, hown5⟩
            obtain ⟨a3, c3, rfl⟩ := own_form hown5
            have hj5 : JAt w5 b ⟨sl, sb, L2.length⟩ := ho5.blk hj4 (by simp)
            have hr5 : RAt w5 bu (A ++ p) L2.length := ho5.blk hr4 (by simp)
            have r1 : Reads w5 (.slice a1 nw.length c1) (nw.map .string) := (reads_owns hown34).off ho5 (by simp)
            have r2 : Reads w5 (.slice a2 nw.length c2) (nw.map .string) := (reads_owns hown4).off ho5 (by simp)
            clear kR kS
            cases sb
            all_goals
              go_wp2_with (first
                | (go_at_call 20; refine (same _ _ nw nw w5 r1 r2 (by omega)).mono ?_; rintro e w6 ⟨rfl, ho6⟩; rw [decide_eq_true (show nw = nw from rfl)]; have hj6 : JAt w6 b _ := ho6.blk hj5 (by simp); have hr6 : RAt w6 bu (A ++ p) L2.length := ho6.blk hr5 (by simp))
                | (go_at_call 21; (with_reducible refine (jBad b _ w6 hj6).mono ?_); rintro e w' ⟨rfl, rfl⟩)
                | (go_at_call 22; (with_reducible refine (jLeft b _ w6 hj6).mono ?_); rintro e w' ⟨rfl, rfl⟩)
                | (go_at_call 23; (with_reducible refine (jSeen b _ w6 hj6).mono ?_); rintro e w' ⟨rfl, rfl⟩))
              go_roundw
              case rel => exact ⟨k + 1, A ++ p, bu, by omega, by omega, by go_num, rfl, by rw [HS.out]; exact hj6, by rw [HLL.out]; exact hr6, hne, hwb, hwu, by rw [ByteArray.size_append]; omega, (((hof.fresh ho3 (by simpa using hwb)).fresh ho4 (by simpa using hwu)).trans ho5 (by simp)).trans ho6 (by simp)⟩
              case measure => simp [intOf] <;> omega
        · have dk2 : decide (k < rs.length) = false := decide_eq_false hk2
          cases hbad : (stOf A).bad
          · go_wp2_with fail
            have hxc := hx
            clear hx
            generalize wr = wc at *
            have hfa := feed_all A p hbad
            have kJ := Lib.hid (jFeed b (stOf A) p wc hj (by have := stOf_left A; omega) (by omega) (by have := stOf_seen A; have := cut_len A; omega))
            rw [hfa.1, hfa.2.1] at kJ
            have kR := Lib.hid (fun w' h => rFeed bu A p w' h (by omega) hbad)
            have kS := Lib.hid (fun n w' h => rState bu (A ++ p) n w' h (by rw [ByteArray.size_append]; omega))
            have hsn := stOf_seen (A ++ p)
            have hsl := stOf_left (A ++ p)
            have hcl := cut_len (A ++ p)
            have hST := Lib.hid (show stOf (A ++ p) = stOf (A ++ p) from rfl)
            have hnl := (feed_size (stOf A) p).2.2
            have hsl0 := stOf_left A
            rw [ByteArray.size_append] at hcl
            generalize (feedV (stOf A) p).2.1 = nw at *
            generalize hLL : (cutV (A ++ p)).1 = L2 at *
            obtain ⟨⟨sl, sb, ss⟩, hS⟩ : ∃ q, stOf (A ++ p) = q := ⟨_, rfl⟩
            rw [hS] at kJ kR kS hsn hsl
            dsimp only at kJ kR kS hsn hsl
            subst hsn
            have hd5 : decide (2053 < sl.size) = false := decide_eq_false (by omega)
            have HS := Lib.hid hS
            have HLL := Lib.hid hLL
            have hbsz := Blk.lt hj
            have hbusz := Blk.lt hr
            clear hS hLL hST hfa
            refine kJ.out.mono ?_
            rintro e w3 ⟨v1, rfl, hj3, ho3, hown3⟩
            have hr3 : RAt w3 bu A (cutV A).1.length := ho3.blk hr (by simpa using hne.symm)
            obtain ⟨a1, c1, rfl⟩ := own_form hown3
            have hx3 : w3.cell? (x.add k) = some (.string p) := (ho3.cell (lt_of_cell hxc) (by rw [add_block]; simp; omega)).trans hxc
            clear kJ
            go_wp2_with (go_at_call 25; refine (kR.out w3 hr3).mono ?_; rintro e w4 ⟨v2, rfl, hr4, ho4, hown4⟩; obtain ⟨a2, c2, rfl⟩ := own_form hown4)
            have hj4 : JAt w4 b ⟨sl, sb, L2.length⟩ := ho4.blk hj3 (by simpa using hne)
            have hown34 := owns_off hown3 ho4 (fun q hq hm => by have h9 := (hown3.lt q (by simpa using hq)).1; simp only [List.mem_singleton] at hm; omega)
            refine (kS.out _ w4 hr4).mono ?_
            rintro e w5 ⟨v3, rfl, ho5, hown5⟩
            obtain ⟨a3, c3, rfl⟩ := own_form hown5
            have hj5 : JAt w5 b ⟨sl, sb, L2.length⟩ := ho5.blk hj4 (by simp)
            have hr5 : RAt w5 bu (A ++ p) L2.length := ho5.blk hr4 (by simp)
            have r1 : Reads w5 (.slice a1 nw.length c1) (nw.map .string) := (reads_owns hown34).off ho5 (by simp)
            have r2 : Reads w5 (.slice a2 nw.length c2) (nw.map .string) := (reads_owns hown4).off ho5 (by simp)
            clear kR kS
            cases sb
            all_goals
              go_wp2_with (first
                | (go_at_call 20; refine (same _ _ nw nw w5 r1 r2 (by omega)).mono ?_; rintro e w6 ⟨rfl, ho6⟩; rw [decide_eq_true (show nw = nw from rfl)]; have hj6 : JAt w6 b _ := ho6.blk hj5 (by simp); have hr6 : RAt w6 bu (A ++ p) L2.length := ho6.blk hr5 (by simp))
                | (go_at_call 21; (with_reducible refine (jBad b _ w6 hj6).mono ?_); rintro e w' ⟨rfl, rfl⟩)
                | (go_at_call 22; (with_reducible refine (jLeft b _ w6 hj6).mono ?_); rintro e w' ⟨rfl, rfl⟩)
                | (go_at_call 23; (with_reducible refine (jSeen b _ w6 hj6).mono ?_); rintro e w' ⟨rfl, rfl⟩))
              go_roundw
              case rel => exact ⟨k + 1, A ++ p, bu, by omega, by omega, by go_num, rfl, by rw [HS.out]; exact hj6, by rw [HLL.out]; exact hr6, hne, hwb, hwu, by rw [ByteArray.size_append]; omega, (((hof.fresh ho3 (by simpa using hwb)).fresh ho4 (by simpa using hwu)).trans ho5 (by simp)).trans ho6 (by simp)⟩
              case measure => simp [intOf] <;> omega
          · go_wp2_with fail
            have hxc := hx
            clear hx
            generalize wr = wc at *
            have kJ := jFeed_bad b (stOf A) p wc hj hbad
            have kR := Lib.hid (fun w' h => rFeed_bad bu A p (cutV A).1.length w' h (by omega) hbad)
            have kS := Lib.hid (fun n w' h => rState bu A n w' h (by omega))
            have hsn := stOf_seen A
            have hsl := stOf_left A
            have hcl := cut_len A
            generalize hLL : (cutV A).1 = L2 at *
            obtain ⟨⟨sl, sb, ss⟩, hS⟩ : ∃ q, stOf A = q := ⟨_, rfl⟩
            rw [hS] at kS hsn hsl hj hbad
            dsimp only at kS hsn hsl hbad
            subst hsn
            subst hbad
            have hd5 : decide (2053 < sl.size) = false := decide_eq_false (by omega)
            have HS := Lib.hid hS
            have HLL := Lib.hid hLL
            clear hS hLL
            refine kJ.mono ?_
            rintro e w3 ⟨rfl, rfl⟩
            clear kJ
            go_wp2_with (go_at_call 25; refine (kR.out wc hr).mono ?_; rintro e w4 ⟨rfl, ho4⟩)
            have hj4 : JAt w4 b ⟨sl, true, L2.length⟩ := ho4.blk hj (by simp)
            have hr4 : RAt w4 bu A L2.length := ho4.blk hr (by simp)
            refine (kS.out _ w4 hr4).mono ?_
            rintro e w5 ⟨v3, rfl, ho5, hown5⟩
            obtain ⟨a3, c3, rfl⟩ := own_form hown5
            have hj5 : JAt w5 b ⟨sl, true, L2.length⟩ := ho5.blk hj4 (by simp)
            have hr5 : RAt w5 bu A L2.length := ho5.blk hr4 (by simp)
            clear kR kS
            go_wp2_with (first
              | (go_at_call 20; refine (same _ _ [] [] w5 (.inl ⟨rfl, rfl⟩) (.inl ⟨rfl, rfl⟩) (by simp)).mono ?_; rintro e w6 ⟨rfl, ho6⟩; rw [decide_eq_true (show ([] : List ByteArray) = [] from rfl)]; have hj6 : JAt w6 b _ := ho6.blk hj5 (by simp); have hr6 : RAt w6 bu A L2.length := ho6.blk hr5 (by simp))
              | (go_at_call 21; (with_reducible refine (jBad b _ w6 hj6).mono ?_); rintro e w' ⟨rfl, rfl⟩)
              | (go_at_call 22; (with_reducible refine (jLeft b _ w6 hj6).mono ?_); rintro e w' ⟨rfl, rfl⟩)
              | (go_at_call 23; (with_reducible refine (jSeen b _ w6 hj6).mono ?_); rintro e w' ⟨rfl, rfl⟩))
            go_roundw
            case rel => exact ⟨k + 1, A, bu, by omega, by omega, by go_num, rfl, by rw [HS.out]; exact hj6, by rw [HLL.out]; exact hr6, hne, hwb, hwu, by omega, ((hof.trans ho4 (by simp)).trans ho5 (by simp)).trans ho6 (by simp)⟩
            case measure => simp [intOf] <;> omega
      · have dp : decide ((512 : Int) < (p.size : Int)) = true := decide_eq_true (by omega)
        go_wp2
        go_ret
        exact ⟨rfl, hof.to_below⟩
    · have hor : (decide (k < ps.length) = false) ∨ decide (k < ps.length) = true ∧ decide ((k : Int) < 30) = false := by
        by_cases h1 : k < ps.length
        · exact .inr ⟨decide_eq_true h1, decide_eq_false (by omega)⟩
        · exact .inl (decide_eq_false h1)
      clear hlt hj hr
      rcases hor with h1 | ⟨h1, h2⟩
      all_goals
        go_wp2_with (first
          | (go_at_call 24; refine (jReset_nil _).mono ?_; rintro e w' ⟨rfl, rfl⟩)
          | (go_at_call 19; refine (jFeed_nil _ _).mono ?_; rintro e w' ⟨rfl, rfl⟩)
          | (go_at_call 21; refine (jBad_nil _).mono ?_; rintro e w' ⟨rfl, rfl⟩)
          | (go_at_call 22; refine (jLeft_nil _).mono ?_; rintro e w' ⟨rfl, rfl⟩)
          | (go_at_call 23; refine (jSeen_nil _).mono ?_; rintro e w' ⟨rfl, rfl⟩))
        go_ret
        exact ⟨rfl, hof.to_below⟩
theorem jointExact (a : Option Addr) (len cap : Nat) (ps : List ByteArray) (a2 : Option Addr) (len2 cap2 : Nat) (rs : List Bool) (w : World) (h : StrsIn w a len cap ps) (h2 : BoolsIn w a2 len2 cap2 rs) :
    Calls Try.prog 7 #[.slice a len cap, .slice a2 len2 cap2] w fun e w' => e = .returned (.bool true) ∧ Below w.heap.size w w' := exact_main a len cap ps a2 len2 cap2 rs w h h2
end Go.Proofs.Ytfjkcegdodpgdaa.Jo
