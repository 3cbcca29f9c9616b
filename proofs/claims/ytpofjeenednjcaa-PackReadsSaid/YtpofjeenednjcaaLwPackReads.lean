/- Of every bytes, and row of what is read of them, each number and text, and what is bad, are the document's: the walk of the statement. -/
import Derived.Test.YtpofjeenednjcaaProg
import Derived.Below
import Derived.WalkKit
import Derived.KernelRfl
import Derived.RowKit3
import Derived.Deep.LoopGhost
import Derived.Deep.QuietTactic
import Derived.BigQuiet
import Derived.WideLaws
import Derived.Deep.DeepCutAuto
import Derived.Deep.CutBlock
import Derived.Lib.Hide
import Derived.Laws.BitsLemmas
import Derived.Laws.Bits64
import Derived.Laws.BitsAllLaws
import Derived.IntWalk
import Derived.Outline
import Derived.WalkSpells
import Derived.Test.YtpofjeenednjcaaMem
import Derived.Test.YtpofjeenednjcaaPkB
import Derived.RegionTactic
import Derived.Deep.RegionWith
import Derived.Deep.RegionHeld3
namespace Go.Proofs.Ytpofjeenednjcaa.Pk
open Go.RowKit Go.Proofs.Ytpofjeenednjcaa.Mem

set_option maxRecDepth 20000 in
set_option maxHeartbeats 1600000 in
theorem packReads_main (s : ByteArray) (v : Value) (acts : List ActV) (w : World) (hs : s.size ≤ 4096) (h : RowsAt w v 5 (acts.map actCells)) :
    Calls Try.prog 9 #[.string s, v] w fun e w' => e = .returned (.bool true) ∧ Below w.heap.size w w' := by
  have hd : decide (4096 < s.size) = false := decide_eq_false (by omega)
  obtain ⟨a, cap, hv⟩ : ∃ a cap, v = .slice a acts.length cap := by
    rcases h with ⟨rfl, h0⟩ | ⟨x, c, rfl, _⟩
    · obtain rfl : acts = [] := by simpa using h0
      exact ⟨_, _, rfl⟩
    · exact ⟨_, _, by rw [List.length_map]⟩
  subst hv
  have HA := Lib.hid h
  clear h
  go_enter Try.func9, Try.ntmps9
  go_wp2_with (first
    | (go_at_call 21; refine (awake _).mono ?_; rintro e w0 ⟨rfl, ho⟩)
    | (go_at_call 28; refine (inOf _ _).mono ?_; rintro e w1 ⟨bi, rfl, hbi, hi1, ho1⟩))
  have hbr : bi < w1.heap.size := Blk.lt hi1
  have g2 := ho1.size
  generalize hrb : w1.heap.size = rb at *
  go_loopw [7] (fun vi wr => ∃ (k : Nat) (t : ByteArray) (bad : Bool), k ≤ acts.length ∧ vi = .int .i64 k ∧ t.size ≤ 4096 ∧ InAt wr bi t bad ∧ RefInAt wr rb t bad ∧ Off [] w wr)
    (fun vi _ => acts.length - (intOf vi).toNat)
  case atStart => exact ⟨0, s, false, Nat.zero_le _, rfl, hs, Blk.alloc hi1 _, blk_new' _ _ _ _ hrb.symm, ((ho.fresh ho1 (by simp)).alloc _)⟩
  case round =>
    obtain ⟨k, t, bad, hk, rfl, ht, hi, hr, hof⟩ := hrel
    by_cases hlt : k < acts.length
    · by_cases h60 : k < 60
      · obtain ⟨x, rfl, hx⟩ : ∃ x, a = some x ∧ CellsAt wr (x.add (k * 5)) (actCells acts[k]) := by
          rcases HA.out with ⟨_, h0⟩ | ⟨x, c, hx, hc⟩
          · obtain rfl : acts = [] := by simpa using h0
            simp at hlt
          · injection hx with hx _ _
            subst hx
            have h1 := hc k (by simpa using hlt)
            rw [List.getElem_map] at h1
            exact ⟨x, rfl, h1.off hof (by simp)⟩
        have c0 := hx.first _ rfl
        have c1 := hx.next 0 _ rfl
        have c2 := hx.next 1 _ rfl
        have c3 := hx.next 2 _ rfl
        have c4 := hx.next 3 _ rfl
        clear hx
        generalize acts[k] = act at *
        have hbn : bi < wr.heap.size := Blk.lt hi
        have hrn : rb < wr.heap.size := Blk.lt hr
        have HI := Lib.hid hi
        have HR := Lib.hid hr
        clear hi hr
        by_cases hk1 : act.kind = 1
        · have hk1b : (act.kind == 1) = true := by simpa using hk1
          clear hk1
          go_wp2_with fail
          have HB := Lib.hid (show Blk _ _ (actA act) _ from blk_new wr #[.int .i64 act.kind, .int .i64 act.wd, .int .i64 act.n, .int .i64 act.m, .string act.s] 44)
          have HI' : Hid (InAt _ bi t bad) := Lib.hid (Blk.alloc HI.out (.cells #[.int .i64 act.kind, .int .i64 act.wd, .int .i64 act.n, .int .i64 act.m, .string act.s] 44))
          have HR' : Hid (RefInAt _ rb t bad) := Lib.hid (Blk.alloc HR.out (.cells #[.int .i64 act.kind, .int .i64 act.wd, .int .i64 act.n, .int .i64 act.m, .string act.s] 44))
          have hof' := hof.alloc (.cells #[.int .i64 act.kind, .int .i64 act.wd, .int .i64 act.n, .int .i64 act.m, .string act.s] 44)
          have hsz : (wr.alloc (.cells #[.int .i64 act.kind, .int .i64 act.wd, .int .i64 act.n, .int .i64 act.m, .string act.s] 44)).heap.size = wr.heap.size + 1 := by simp
          generalize wr.alloc (.cells #[.int .i64 act.kind, .int .i64 act.wd, .int .i64 act.n, .int .i64 act.m, .string act.s] 44) = wa at *
          clear c0 c1 c2 c3 c4 HI HR hof
          generalize wr.heap.size = nb at *
          have hir : bi ≠ rb := by omega
          have hnb : nb ≠ bi ∧ nb ≠ rb := by omega
          have HIR := Lib.hid hir
          have HNB := Lib.hid hnb
          clear hir hnb hbn hrn
          go_region_held3 (fun w' => Blk w' nb (actA act) 44 ∧ w'.cell? ⟨nb, 1, none⟩ = some (.int .i64 act.wd))
            (refine keep1 1 _ ?_ rfl <;> first
              | exact HB.out.drew
              | exact hoB.blk HB.out.drew (by simp; exact HNB.out.2)
              | exact hoA.blk HB.out.drew (by simp; exact HNB.out.1)
              | exact hoB.blk (hoA.blk HB.out.drew (by simp; exact HNB.out.1)) (by simp; exact HNB.out.2)
              | exact hoA.blk (hoB.blk HB.out.drew (by simp; exact HNB.out.2)) (by simp; exact HNB.out.1))
            (first
              | (go_at_call 29; refine (inNum bi t bad _ act.wd ?_).mono ?_; (focus (first | exact HI'.out.drew | exact hoB.blk HI'.out.drew (by simp; exact HIR.out))); rintro e wA ⟨rfl, hiA, hoA⟩)
              | (go_at_call 30; refine (refIn rb t bad _ act.wd ?_).mono ?_; (focus (first | exact HR'.out.drew | exact hoA.blk HR'.out.drew (by simp; exact fun h => HIR.out h.symm))); rintro e wB ⟨rfl, hrB, hoB⟩))
          all_goals
            obtain ⟨wz, hwz, hi2, hr2, hof2⟩ : ∃ wz, wz = _ ∧ InAt wz bi (inNumV t bad act.wd).2.1 (inNumV t bad act.wd).2.2 ∧ RefInAt wz rb (inNumV t bad act.wd).2.1 (inNumV t bad act.wd).2.2 ∧ Off [bi, rb] wa wz := by
              first
                | exact ⟨wB, rfl, hoB.blk hiA (by simp; exact HIR.out), hrB, (Off.two hoA hoB).of_drew⟩
                | exact ⟨wA, rfl, hiA, hoA.blk hrB (by simp; exact fun h => HIR.out h.symm), (Off.two' hoB hoA).of_drew⟩
            rw [← hwz]
            have hN : (inNumV t bad act.wd).2.1.size ≤ 4096 := inNumV_size t bad act.wd ht
            generalize (inNumV t bad act.wd) = q at *
            obtain ⟨q1, q2, q3⟩ := q
            clear hiA hrB hoA hoB hwz
            obtain ⟨hi2, hr2, hN⟩ : InAt wz bi q2 q3 ∧ RefInAt wz rb q2 q3 ∧ q2.size ≤ 4096 := ⟨hi2, hr2, hN⟩
            have r0 := Blk.cell hr2 0 _ rfl
            have r1 := Blk.cell hr2 1 _ rfl
            have HI2 := Lib.hid hi2
            have HR2 := Lib.hid hr2
            clear hi2 hr2
            obtain ⟨em, hem, hem2⟩ : ∃ em, q2.toList.isEmpty = em ∧ ((q2.size : Int) == 0) = em := ⟨_, rfl, (empty_size q2).symm⟩
            have H3 := Lib.hid r0
            cases q3 <;> cases em
            all_goals
              go_wp2_with fail
              go_quiet (first
                | (go_at_call 33; exact quiet_mine (inBad bi q2 _ _ HI2.out))
                | (go_at_call 34; exact quiet_mine (inLeft bi q2 _ _ HI2.out))
                | (go_at_call 35; exact quiet_mine (refLeft rb q2 _ _ HR2.out))
                | (go_at_call 36; exact quiet_mine (inEnd bi q2 _ _ HI2.out)))
              go_wp2
              go_roundw
              case rel =>
                have g1 := ho.size
                exact ⟨k + 1, q2, _, by omega, by go_num, hN, HI2.out.drewN _, HR2.out.drewN _, (hof'.fresh hof2 (by simp; omega)).drewN _⟩
              case measure => simp [intOf]; omega
        · have hk1b : (act.kind == 1) = false := by simpa using hk1
          clear hk1
          go_wp2_with fail
          have HB := Lib.hid (show Blk _ _ (actA act) _ from blk_new wr #[.int .i64 act.kind, .int .i64 act.wd, .int .i64 act.n, .int .i64 act.m, .string act.s] 44)
          have HI' : Hid (InAt _ bi t bad) := Lib.hid (Blk.alloc HI.out (.cells #[.int .i64 act.kind, .int .i64 act.wd, .int .i64 act.n, .int .i64 act.m, .string act.s] 44))
          have HR' : Hid (RefInAt _ rb t bad) := Lib.hid (Blk.alloc HR.out (.cells #[.int .i64 act.kind, .int .i64 act.wd, .int .i64 act.n, .int .i64 act.m, .string act.s] 44))
          have hof' := hof.alloc (.cells #[.int .i64 act.kind, .int .i64 act.wd, .int .i64 act.n, .int .i64 act.m, .string act.s] 44)
          have hsz : (wr.alloc (.cells #[.int .i64 act.kind, .int .i64 act.wd, .int .i64 act.n, .int .i64 act.m, .string act.s] 44)).heap.size = wr.heap.size + 1 := by simp
          generalize wr.alloc (.cells #[.int .i64 act.kind, .int .i64 act.wd, .int .i64 act.n, .int .i64 act.m, .string act.s] 44) = wa at *
          clear c0 c1 c2 c3 c4 HI HR hof
          generalize wr.heap.size = nb at *
          have hir : bi ≠ rb := by omega
          have hnb : nb ≠ bi ∧ nb ≠ rb := by omega
          have HIR := Lib.hid hir
          have HNB := Lib.hid hnb
          clear hir hnb hbn hrn
          go_region_held3 (fun w' => Blk w' nb (actA act) 44 ∧ w'.cell? ⟨nb, 2, none⟩ = some (.int .i64 act.n))
            (refine keep1 2 _ ?_ rfl <;> first
              | exact HB.out.drew
              | exact hoB.blk HB.out.drew (by simp; exact HNB.out.2)
              | exact hoA.blk HB.out.drew (by simp; exact HNB.out.1)
              | exact hoB.blk (hoA.blk HB.out.drew (by simp; exact HNB.out.1)) (by simp; exact HNB.out.2)
              | exact hoA.blk (hoB.blk HB.out.drew (by simp; exact HNB.out.2)) (by simp; exact HNB.out.1))
            (first
              | (go_at_call 31; refine (inText bi t bad _ act.n ?_ (by omega)).mono ?_; (focus (first | exact HI'.out.drew | exact hoB.blk HI'.out.drew (by simp; exact HIR.out))); rintro e wA ⟨rfl, hiA, hoA⟩)
              | (go_at_call 32; refine (refTx rb t bad _ act.n ?_).mono ?_; (focus (first | exact HR'.out.drew | exact hoA.blk HR'.out.drew (by simp; exact fun h => HIR.out h.symm))); rintro e wB ⟨rfl, hrB, hoB⟩))
          all_goals
            obtain ⟨wz, hwz, hi2, hr2, hof2⟩ : ∃ wz, wz = _ ∧ InAt wz bi (inTextV t bad act.n).2.1 (inTextV t bad act.n).2.2 ∧ RefInAt wz rb (inTextV t bad act.n).2.1 (inTextV t bad act.n).2.2 ∧ Off [bi, rb] wa wz := by
              first
                | exact ⟨wB, rfl, hoB.blk hiA (by simp; exact HIR.out), hrB, (Off.two hoA hoB).of_drew⟩
                | exact ⟨wA, rfl, hiA, hoA.blk hrB (by simp; exact fun h => HIR.out h.symm), (Off.two' hoB hoA).of_drew⟩
            rw [← hwz]
            have hN : (inTextV t bad act.n).2.1.size ≤ 4096 := inTextV_size t bad act.n ht
            generalize (inTextV t bad act.n) = q at *
            obtain ⟨q1, q2, q3⟩ := q
            clear hiA hrB hoA hoB hwz
            obtain ⟨hi2, hr2, hN⟩ : InAt wz bi q2 q3 ∧ RefInAt wz rb q2 q3 ∧ q2.size ≤ 4096 := ⟨hi2, hr2, hN⟩
            have r0 := Blk.cell hr2 0 _ rfl
            have r1 := Blk.cell hr2 1 _ rfl
            have HI2 := Lib.hid hi2
            have HR2 := Lib.hid hr2
            clear hi2 hr2
            obtain ⟨em, hem, hem2⟩ : ∃ em, q2.toList.isEmpty = em ∧ ((q2.size : Int) == 0) = em := ⟨_, rfl, (empty_size q2).symm⟩
            have H3 := Lib.hid r0
            cases q3 <;> cases em
            all_goals
              go_wp2_with fail
              go_quiet (first
                | (go_at_call 33; exact quiet_mine (inBad bi q2 _ _ HI2.out))
                | (go_at_call 34; exact quiet_mine (inLeft bi q2 _ _ HI2.out))
                | (go_at_call 35; exact quiet_mine (refLeft rb q2 _ _ HR2.out))
                | (go_at_call 36; exact quiet_mine (inEnd bi q2 _ _ HI2.out)))
              go_wp2
              go_roundw
              case rel =>
                have g1 := ho.size
                exact ⟨k + 1, q2, _, by omega, by go_num, hN, HI2.out.drewN _, HR2.out.drewN _, (hof'.fresh hof2 (by simp; omega)).drewN _⟩
              case measure => simp [intOf]; omega
      · go_wp2_with (first
    | (go_at_call 33; refine (inBad_nil _).mono ?_; rintro e w' ⟨rfl, rfl⟩)
    | (go_at_call 29; refine (inNum_nil _ _).mono ?_; rintro e w' ⟨rfl, rfl⟩)
    | (go_at_call 31; refine (inText_nil _ _).mono ?_; rintro e w' ⟨rfl, rfl⟩)
    | (go_at_call 34; refine (inLeft_nil _).mono ?_; rintro e w' ⟨rfl, rfl⟩)
    | (go_at_call 36; refine (inEnd_nil _).mono ?_; rintro e w' ⟨rfl, rfl⟩))
        go_ret
        exact ⟨rfl, hof.to_below⟩
    · go_wp2_with (first
    | (go_at_call 33; refine (inBad_nil _).mono ?_; rintro e w' ⟨rfl, rfl⟩)
    | (go_at_call 29; refine (inNum_nil _ _).mono ?_; rintro e w' ⟨rfl, rfl⟩)
    | (go_at_call 31; refine (inText_nil _ _).mono ?_; rintro e w' ⟨rfl, rfl⟩)
    | (go_at_call 34; refine (inLeft_nil _).mono ?_; rintro e w' ⟨rfl, rfl⟩)
    | (go_at_call 36; refine (inEnd_nil _).mono ?_; rintro e w' ⟨rfl, rfl⟩))
      go_ret
      exact ⟨rfl, hof.to_below⟩
theorem packReads (s : ByteArray) (v : Value) (acts : List ActV) (w : World) (ws : s.size ≤ 140737488351232) (h : RowsAt w v 5 (acts.map actCells)) :
    Calls Try.prog 9 #[.string s, v] w fun e w' => e = .returned (.bool true) ∧ Below w.heap.size w w' := by
  by_cases hs : s.size ≤ 4096
  · exact packReads_main s v acts w hs h
  · have hd : decide (4096 < s.size) = true := decide_eq_true (by omega)
    go_enter Try.func9, Try.ntmps9
    go_wp2_with (go_at_call 21; refine (awake _).mono ?_; rintro e w0 ⟨rfl, ho⟩)
    go_ret
    exact ⟨rfl, ho.to_below⟩
end Go.Proofs.Ytpofjeenednjcaa.Pk
