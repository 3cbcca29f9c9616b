/- What is written is what the document says: the walk of the statement. -/
import Derived.Test.YtpofjeenednjcaaProg
import Derived.Below
import Derived.WalkKit
import Derived.KernelRfl
import Derived.RowKit3
import Derived.Deep.LoopGhost
import Derived.Deep.QuietTactic
import Derived.BigQuiet
import Derived.WideLaws
import Derived.Deep.DeepCutAuto
import Derived.Deep.CutBlock
import Derived.Lib.Hide
import Derived.Laws.BitsLemmas
import Derived.Laws.Bits64
import Derived.Laws.BitsAllLaws
import Derived.IntWalk
import Derived.Outline
import Derived.WalkSpells
import Derived.Test.YtpofjeenednjcaaMem
import Derived.Test.YtpofjeenednjcaaPk7
import Derived.Test.YtpofjeenednjcaaOpenAct
namespace Go.Proofs.Ytpofjeenednjcaa.Pk
open Go.RowKit Go.Proofs.Ytpofjeenednjcaa.Mem

theorem made_str (N : Nat) (hN : N ≤ 1000000) : ∃ (cs : Array Value) (t : ByteArray), t.size = N ∧ (∀ w : World, (Instr.makeSlice 33 (.int .i64 (N : Int)) (.int .i64 (N : Int))).run Try.prog w = .ok (.slice (some ⟨w.heap.size, 0, none⟩) N N) (w.alloc (.cells cs 5))) ∧
    (∀ w b, Blk w b cs 5 → (convert 33 9 (.slice (some ⟨b, 0, none⟩) N N)).run Try.prog w = .ok (.string t) w) := by
  refine ⟨_, str (List.replicate N 0), by rw [str_size, List.length_replicate], run_make_row' (P := Try.prog) 33 5 (.int .u8 0) 1 Try.underlying33 info_byte rfl .i64 .i64 N (by omega) (by omega), fun w b hb => ?_⟩
  exact conv_blk (by rw [← made_bytes]; exact hb) N (by simp)
set_option maxRecDepth 20000 in
set_option maxHeartbeats 3200000 in
theorem packWrites (v : Value) (acts : List ActV) (w : World) (h : RowsAt w v 5 (acts.map actCells)) (hok : ∀ a ∈ acts, ActOk a) :
    Calls Try.prog 8 #[v] w fun e w' => e = .returned (.bool true) ∧ Below w.heap.size w w' := by
  obtain ⟨a, cap, hv⟩ : ∃ a cap, v = .slice a acts.length cap := by
    rcases h with ⟨rfl, h0⟩ | ⟨x, c, rfl, _⟩
    · obtain rfl : acts = [] := by simpa using h0
      exact ⟨_, _, rfl⟩
    · exact ⟨_, _, by rw [List.length_map]⟩
  subst hv
  have HA := Lib.hid h
  clear h
  obtain ⟨mc, mt, hmt, hmk, hcv⟩ : ∃ (cs : Array Value) (t : ByteArray), t.size = 65536 ∧ (∀ w : World, (Instr.makeSlice 33 (.int .i64 65536) (.int .i64 65536)).run Try.prog w = .ok (.slice (some ⟨w.heap.size, 0, none⟩) 65536 65536) (w.alloc (.cells cs 5))) ∧
      (∀ w b, Blk w b cs 5 → (convert 33 9 (.slice (some ⟨b, 0, none⟩) 65536 65536)).run Try.prog w = .ok (.string t) w) := made_str 65536 (by omega)
  go_enter Try.func8, Try.ntmps8
  go_wp2_with (go_at_call 21; refine (awake _).mono ?_; rintro e w0 ⟨rfl, ho⟩)
  have g1 := ho.size
  generalize hob : w0.heap.size = ob at *
  go_loopw [4, 5] (fun vs vi wr => ∃ (k : Nat) (l : List Nat) (ov : Value), k ≤ acts.length ∧ vi = .int .i64 k ∧ l.length ≤ 1100 * k ∧ vs = .string (str l) ∧ OutAt wr ob ov l ∧ (∀ g, ov.ownBlock = some g → w.heap.size ≤ g) ∧ Off [] w wr)
    (fun _ vi _ => acts.length - (intOf vi).toNat)
  case atStart => exact ⟨0, [], .slice none 0 0, Nat.zero_le _, rfl, by simp, rfl, (by have := OutAt.newOut (w := w0); rw [hob] at this; exact this), by simp [Value.ownBlock], ho.alloc _⟩
  case round =>
    obtain ⟨k, l, ov, hk, rfl, hll, rfl, hout, hov, hof⟩ := hrel
    by_cases hlt : k < acts.length
    · by_cases h40 : k < 40
      · obtain ⟨x, rfl, hx⟩ : ∃ x, a = some x ∧ CellsAt wr (x.add (k * 5)) (actCells acts[k]) := by
          rcases HA.out with ⟨_, h0⟩ | ⟨x, c, hx, hc⟩
          · obtain rfl : acts = [] := by simpa using h0
            simp at hlt
          · injection hx with hx _ _
            subst hx
            have h1 := hc k (by simpa using hlt)
            rw [List.getElem_map] at h1
            exact ⟨x, rfl, h1.off hof (by simp)⟩
        have hao : ActOk acts[k] := hok _ (List.getElem_mem hlt)
        have c0 := hx.first _ rfl
        have c1 := hx.next 0 _ rfl
        have c2 := hx.next 1 _ rfl
        have c3 := hx.next 2 _ rfl
        have c4 := hx.next 3 _ rfl
        clear hx
        generalize acts[k] = act at *
        obtain ⟨kind, wd, n, m, s⟩ := act
        obtain ⟨hn, hm, hs63⟩ := hao
        have HO := Lib.hid hout
        clear hout
        by_cases hs : s.size ≤ 1024
        · have hd : decide ((1024 : Int) < (s.size : Int)) = false := decide_eq_false (by omega)
          by_cases hk1 : kind = 1
          · subst hk1
            obtain ⟨⟨s1, b1⟩, hq1⟩ : ∃ q, refNumV wd n = q := ⟨_, rfl⟩
            obtain ⟨⟨s2, b2⟩, hq2⟩ : ∃ q, refNumV wd m = q := ⟨_, rfl⟩
            have z1 := refNumV_size wd n
            have z2 := refNumV_size wd m
            rw [hq1] at z1
            rw [hq2] at z2
            have HQ1 := Lib.hid hq1
            have HQ2 := Lib.hid hq2
            have z1 : s1.size ≤ 8 := z1
            have z2 : s2.size ≤ 8 := z2
            have zl : (str l).size ≤ 44000 := by rw [str_size]; omega
            clear hq1 hq2
            go_wp2_with fail
            have HB := Lib.hid (show Blk _ _ (actA ⟨1, wd, n, m, s⟩) _ from blk_new wr #[.int .i64 1, .int .i64 wd, .int .i64 n, .int .i64 m, .string s] 44)
            have hoa := HO.out.off ((Off.refl [] wr).alloc (.cells #[.int .i64 1, .int .i64 wd, .int .i64 n, .int .i64 m, .string s] 44)) (by simp) (by simp)
            have hof' := hof.alloc (.cells #[.int .i64 1, .int .i64 wd, .int .i64 n, .int .i64 m, .string s] 44)
            have hsz : (wr.alloc (.cells #[.int .i64 1, .int .i64 wd, .int .i64 n, .int .i64 m, .string s] 44)).heap.size = wr.heap.size + 1 := by simp
            have hob2 := HO.out.blk.lt
            have hov2 := HO.out.lt
            generalize wr.alloc (.cells #[.int .i64 1, .int .i64 wd, .int .i64 n, .int .i64 m, .string s] 44) = wa at *
            clear c0 c1 c2 c3 c4 HO hof
            generalize wr.heap.size = nb at *
            have HOA := Lib.hid hoa
            clear hoa
            have hk := refNum wd n wa hn.2
            rw [HQ1.out] at hk
            refine hk.mono ?_
            clear hk
            rintro e wA ⟨rfl, hoA⟩
            have hB := hoA.blk HB.out (by simp)
            have a1 := hB.cell 1 (.int .i64 wd) rfl
            have a2 := hB.cell 2 (.int .i64 n) rfl
            have a3 := hB.cell 3 (.int .i64 m) rfl
            have HB1 := Lib.hid hB
            clear hB
            go_wp2_with fail
            have hk := refNum wd m wA hm.2
            rw [HQ2.out] at hk
            refine hk.mono ?_
            clear hk a1 a2 a3
            rintro e wB ⟨rfl, hoB⟩
            have hB := hoB.blk HB1.out (by simp)
            have a1 := hB.cell 1 (.int .i64 wd) rfl
            have a2 := hB.cell 2 (.int .i64 n) rfl
            have a3 := hB.cell 3 (.int .i64 m) rfl
            have HOB := Lib.hid ((HOA.out.off hoA (by simp) (by simp)).off hoB (by simp) (by simp))
            have hofB := (hof'.trans hoA (by simp)).trans hoB (by simp)
            clear hB HB HB1 HOA
            go_wp2_with fail
            have hnew := blk_new wB #[.int .i64 n, .int .i64 m] 3
            have hk := outNum_two ob wd n m wB.heap.size ov l _ hn.2 hm.2 (by omega) (HOB.out.off ((Off.refl [] wB).alloc _) (by simp) (by simp)) hnew (by have := HOB.out.blk.lt; omega) (fun e => by have := HOB.out.lt _ e.symm; omega)
            rw [HQ1.out, HQ2.out] at hk
            refine hk.mono ?_
            clear hk hnew
            cases b1 <;> cases b2
            all_goals
              rintro e wC ⟨rfl, v2, l', ho2, hl', hll', hg2, hoC⟩
              simp only [Bool.and_true, Bool.and_false, Bool.and_self, ite_true, ite_false, Bool.false_eq_true] at hl'
              have l1 := Lib.hid hl'
              have hk := outString ob v2 l' _ ho2
              rw [hl'] at hk
              have hstr := Lib.hid hk
              have hk := outLen ob v2 l' _ ho2
              rw [show (l'.length : Int) = ((str l').size : Int) by rw [str_size], hl'] at hk
              have hln := Lib.hid hk
              clear hl' hk
              go_wp2_with (first
                | (go_at_call 26; refine hstr.out.mono ?_; rintro e w' ⟨rfl, rfl⟩)
                | (go_at_call 27; refine hln.out.mono ?_; rintro e w' ⟨rfl, rfl⟩))
              go_roundw
              case rel => 
                refine ⟨k + 1, l', v2, by omega, by go_num, by omega, by rw [l1.out], ho2, ?_, ?_⟩
                · exact (Goes.above hg2.of_alloc hov (by have := hofB.size; omega))
                · exact (hofB.alloc _).fresh hoC (by intro i hi; simp at hi; rcases hi with rfl | hi; omega; exact hov i hi)
              case measure => simp [intOf]; omega
          · by_cases hk2 : kind = 2
            · subst hk2
              go_wp2_with fail
              have HB := Lib.hid (show Blk _ _ (actA ⟨2, wd, n, m, s⟩) _ from blk_new wr #[.int .i64 2, .int .i64 wd, .int .i64 n, .int .i64 m, .string s] 44)
              have hoa := HO.out.off ((Off.refl [] wr).alloc (.cells #[.int .i64 2, .int .i64 wd, .int .i64 n, .int .i64 m, .string s] 44)) (by simp) (by simp)
              have hof' := hof.alloc (.cells #[.int .i64 2, .int .i64 wd, .int .i64 n, .int .i64 m, .string s] 44)
              have hsz : (wr.alloc (.cells #[.int .i64 2, .int .i64 wd, .int .i64 n, .int .i64 m, .string s] 44)).heap.size = wr.heap.size + 1 := by simp
              have hob2 := HO.out.blk.lt
              have hov2 := HO.out.lt
              generalize wr.alloc (.cells #[.int .i64 2, .int .i64 wd, .int .i64 n, .int .i64 m, .string s] 44) = wa at *
              clear c0 c1 c2 c3 c4 HO hof
              generalize wr.heap.size = nb at *
              have HOA := Lib.hid hoa
              clear hoa
              have zl : (str l).size ≤ 44000 := by rw [str_size]; omega
              have hy : refTextV s = (str (beB 2 s.size) ++ s, true) := by unfold refTextV; rw [if_pos (by omega)]
              have HY := Lib.hid hy
              clear hy
              obtain ⟨q, hq⟩ : ∃ q, str (beB 2 s.size) ++ s = q := ⟨_, rfl⟩
              have hqz : q.size ≤ 1026 := by rw [← hq, ByteArray.size_append, str_size, beB_length]; omega
              have HQ := Lib.hid hq
              clear hq
              have hk := refText s wa
              rw [HY.out, HQ.out] at hk
              refine hk.mono ?_
              clear hk
              rintro e wA ⟨rfl, hoA⟩
              have hB := hoA.blk HB.out (by simp)
              have a4 := hB.cell 4 (.string s) rfl
              have HOB := Lib.hid (HOA.out.off hoA (by simp) (by simp))
              have hofB := hof'.trans hoA (by simp)
              clear hB HB HOA
              go_wp2_with fail
              have hk := outText_one ob s ov l _ (by omega) HOB.out
              rw [HY.out, HQ.out] at hk
              refine hk.mono ?_
              clear hk
              rintro e wC ⟨rfl, v2, l', ho2, hl', hll', hg2, hoC⟩
              simp only [ite_true] at hl'
              have l1 := Lib.hid hl'
              have hk := outString ob v2 l' _ ho2
              rw [hl'] at hk
              have hstr := Lib.hid hk
              have hk := outLen ob v2 l' _ ho2
              rw [show (l'.length : Int) = ((str l').size : Int) by rw [str_size], hl'] at hk
              have hln := Lib.hid hk
              clear hl' hk
              go_wp2_with (first
                | (go_at_call 26; refine hstr.out.mono ?_; rintro e w' ⟨rfl, rfl⟩)
                | (go_at_call 27; refine hln.out.mono ?_; rintro e w' ⟨rfl, rfl⟩))
              go_roundw
              case rel => 
                refine ⟨k + 1, l', v2, by omega, by go_num, by omega, by rw [l1.out], ho2, ?_, ?_⟩
                · exact (Goes.above hg2 hov (by have := hofB.size; omega))
                · exact hofB.fresh hoC (by intro i hi; simp at hi; rcases hi with rfl | hi; omega; exact hov i hi)
              case measure => simp [intOf]; omega
            · have e1 : (kind == 1) = false := by simpa using hk1
              have e2 : (kind == 2) = false := by simpa using hk2
              have hstr := Lib.hid (outString ob ov l _ (HO.out.off ((Off.refl [] wr).alloc (.cells #[.int .i64 kind, .int .i64 wd, .int .i64 n, .int .i64 m, .string s] 44)) (by simp) (by simp)))
              have hln := Lib.hid (outLen ob ov l _ (HO.out.off ((Off.refl [] wr).alloc (.cells #[.int .i64 kind, .int .i64 wd, .int .i64 n, .int .i64 m, .string s] 44)) (by simp) (by simp)))
              have hsl : ((str l).size : Int) = (l.length : Int) := by rw [str_size]
              go_wp2_with (first
                | (go_at_call 26; refine hstr.out.mono ?_; rintro e w' ⟨rfl, rfl⟩)
                | (go_at_call 27; refine hln.out.mono ?_; rintro e w' ⟨rfl, rfl⟩))
              go_roundw
              case rel => exact ⟨k + 1, l, ov, by omega, by go_num, by omega, rfl, HO.out.off ((Off.refl [] wr).alloc _) (by simp) (by simp), hov, hof.alloc _⟩
              case measure => simp [intOf]; omega
        · have hd : decide ((1024 : Int) < (s.size : Int)) = true := decide_eq_true (by omega)
          go_wp2
          go_ret
          exact ⟨rfl, (hof.alloc _).to_below⟩
      · have hcv' := hcv (((wr.alloc (.cells #[.int .i64 1] 3)).alloc (.cells #[.slice none 0 0] 42)).alloc (.cells mc 5)) (wr.heap.size + 2) (blk_new' _ _ _ _ (by simp))
        go_wp2_with (first
          | (go_at_call 26; refine (outString_nil _).mono ?_; rintro e w' ⟨rfl, rfl⟩)
          | (go_at_call 27; refine (outLen_nil _).mono ?_; rintro e w' ⟨rfl, rfl⟩)
          | (go_at_call 23; refine (outNum_nil _ _ _).mono ?_; rintro e w' ⟨rfl, rfl⟩)
          | (go_at_call 25; with_reducible refine (outText_nil _ _).mono ?_; rintro e w' ⟨rfl, rfl⟩)
          | (go_at_call 25; with_reducible refine (outText_no _ _ _ ?_).mono ?_; (focus (rw [hmt]; decide)); rintro e w' ⟨rfl, rfl⟩))
        go_ret
        exact ⟨rfl, (((hof.alloc _).alloc _).alloc _).to_below⟩
    · have hcv' := hcv (((wr.alloc (.cells #[.int .i64 1] 3)).alloc (.cells #[.slice none 0 0] 42)).alloc (.cells mc 5)) (wr.heap.size + 2) (blk_new' _ _ _ _ (by simp))
      go_wp2_with (first
        | (go_at_call 26; refine (outString_nil _).mono ?_; rintro e w' ⟨rfl, rfl⟩)
        | (go_at_call 27; refine (outLen_nil _).mono ?_; rintro e w' ⟨rfl, rfl⟩)
        | (go_at_call 23; refine (outNum_nil _ _ _).mono ?_; rintro e w' ⟨rfl, rfl⟩)
        | (go_at_call 25; with_reducible refine (outText_nil _ _).mono ?_; rintro e w' ⟨rfl, rfl⟩)
        | (go_at_call 25; with_reducible refine (outText_no _ _ _ ?_).mono ?_; (focus (rw [hmt]; decide)); rintro e w' ⟨rfl, rfl⟩))
      go_ret
      exact ⟨rfl, (((hof.alloc _).alloc _).alloc _).to_below⟩
end Go.Proofs.Ytpofjeenednjcaa.Pk
