/- Lists that are written and read: the walk of the statement. -/
import Derived.Test.YtpofjeenednjcaaProg
import Derived.Below
import Derived.WalkKit
import Derived.KernelRfl
import Derived.RowKit3
import Derived.Deep.LoopGhost
import Derived.Deep.QuietTactic
import Derived.BigQuiet
import Derived.WideLaws
import Derived.Deep.DeepCutAuto
import Derived.Deep.CutBlock
import Derived.Lib.Hide
import Derived.Laws.BitsLemmas
import Derived.Laws.Bits64
import Derived.Laws.BitsAllLaws
import Derived.IntWalk
import Derived.Outline
import Derived.WalkSpells
import Derived.Test.YtpofjeenednjcaaMem
import Derived.Test.YtpofjeenednjcaaPk11
import Derived.Test.YtpofjeenednjcaaPk7
namespace Go.Proofs.Ytpofjeenednjcaa.Pk
open Go.RowKit Go.Proofs.Ytpofjeenednjcaa.Mem

abbrev x1 : ByteArray := ⟨#[120]⟩
theorem nums_x : beB 2 x1.size ++ nums x1 = [0, 1, 120] := by decide +kernel
theorem refN1 (n : Int) (hn : n < 9223372036854775808) : (refNumV 1 n).2 = (encN 1 n).2 ∧ ((encN 1 n).2 = true → (refNumV 1 n).1 = str (encN 1 n).1) := by
  have h := fits_ref 1 n hn
  unfold encN
  rw [show wide 1 = true from rfl, Bool.true_and]
  constructor
  · rw [← h]
    split
    · assumption
    · rename_i hc
      simpa using hc
  · intro hc
    split at hc
    · rename_i hf
      rw [if_pos hf]
      have h0 : 0 ≤ n := by unfold fitsV at hf; simp at hf; exact hf.1.2
      unfold refNumV
      rw [if_pos ⟨rfl, h0⟩]
    · cases hc
theorem inNumV_lt2 (s : ByteArray) (bad : Bool) : (inNumV s bad 2).1 ≤ 65535 := by
  unfold inNumV
  split
  · rename_i h
    have h2 := h.2.2.1
    have := be_lt s 2 (by omega)
    show be s 2 ≤ 65535
    omega
  · exact Nat.zero_le _
set_option maxRecDepth 20000 in
set_option maxHeartbeats 3200000 in
theorem packLists_main (a : Option Addr) (len cap : Nat) (zs : List Int) (s : ByteArray) (most : Int) (w : World) (h : IntsAt .i64 w a len cap zs) (hl : len ≤ 300) (hs : s.size ≤ 1024) :
    Calls Try.prog 11 #[.slice a len cap, .string s, .int .i64 most] w fun e w' => e = .returned (.bool true) ∧ Below w.heap.size w w' := by
  obtain ⟨hr, hn, hwf⟩ := h.reads
  generalize zs.take len = ns at *
  subst hn
  clear h
  have d1 : decide ((300 : Int) < (ns.length : Int)) = false := decide_eq_false (by omega)
  have d2 : decide ((1024 : Int) < (s.size : Int)) = false := decide_eq_false (by omega)
  have HR := Lib.hid hr
  clear hr
  go_enter Try.func11, Try.ntmps11
  have hrn := Lib.hid (fun w' => refNum 2 (ns.length : Int) w' (by omega))
  go_wp2_with (first
    | (go_at_call 21; refine (awake _).mono ?_; rintro e w0 ⟨rfl, ho⟩)
    | (go_at_call 25; refine (outText_yes w0.heap.size x1 _ [] _ (by decide) (by decide) (OutAt.newOut (w := w0))).mono ?_; rintro e w1 ⟨rfl, v1, h1, hg1, hf1⟩)
    | (go_at_call 22; refine (hrn.out _).mono ?_; rintro e w2 ⟨rfl, hf2⟩))
  have e2 : (refNumV 2 (ns.length : Int)).1 = str (beB 2 ns.length) := by
    unfold refNumV
    rw [if_pos ⟨rfl, by omega⟩]
    rfl
  rw [e2]
  generalize refNumV 2 (ns.length : Int) = q2 at *
  have ho2 : OutAt w2 w0.heap.size v1 [0, 1, 120] := by
    have h1' : OutAt w1 w0.heap.size v1 [0, 1, 120] := by have := h1; rw [List.nil_append, nums_x] at this; exact this
    exact h1'.off hf2 (by simp) (by simp)
  have hv1 : ∀ g ∈ foot w0.heap.size v1, w.heap.size ≤ g := by
    intro g hg
    have hgr := Grow.foot (b := w0.heap.size) hg1 g hg
    have := ho.size
    rcases hgr with h | h
    · simp [foot, Value.ownBlock] at h
      omega
    · simp at h
      omega
  have hof2 : Off [] w w2 := ((ho.alloc _).fresh hf1 (by intro i hi; simp [Value.ownBlock] at hi; have := ho.size; omega)).trans hf2 (by simp)
  have hns := hwf
  have HWF := Lib.hid (fun n hn => (wf_bounds (hwf n hn)).2)
  have H2 := Lib.hid (And.intro ho2 (And.intro hv1 hof2))
  clear h1 hg1 hf1 hf2 ho2 hv1 hof2 hrn hwf hns e2
  generalize w0.heap.size = n0 at *
  go_loopw [8, 10, 11] (fun vt vo vi wr => ∃ (k : Nat) (t : ByteArray) (okb : Bool), k ≤ ns.length ∧ vi = .int .i64 k ∧ vt = .string t ∧ vo = .bool okb ∧ Off [] w2 wr ∧ t.size ≤ 2 + 8 * k ∧
    Hid (okb = (ns.take k).all fun n => (encN 1 n).2) ∧ Hid (okb = true → t = str (beB 2 ns.length ++ enc1 (ns.take k)))) (fun _ _ vi _ => ns.length - (intOf vi).toNat)
  case atStart => exact ⟨0, _, true, Nat.zero_le _, rfl, rfl, rfl, Off.refl _ _, by rw [str_size, beB_length]; omega, Lib.hid rfl, Lib.hid fun _ => by simp [enc1]⟩
  case round =>
    obtain ⟨k, t, okb, hk, rfl, rfl, rfl, hof, htz, hok, hte⟩ := hrel
    by_cases hlt : k < ns.length
    · obtain ⟨x, rfl, hx⟩ : ∃ x, a = some x ∧ wr.cell? (x.add k) = some (.int .i64 ns[k]) := by
        rcases HR.out with ⟨_, h0⟩ | ⟨x, c, hx, hc⟩
        · have := congrArg List.length h0
          rw [List.length_map] at this
          simp only [List.length_nil] at this
          omega
        · injection hx with hx _ _
          subst hx
          have h1 := hc k (by rw [List.length_map]; exact hlt)
          rw [List.getElem_map] at h1
          refine ⟨x, rfl, ?_⟩
          rw [← h1]
          exact (H2.out.2.2.trans hof (by simp)).cell (lt_of_cell h1) (by simp)
      have hb := HWF.out _ (List.getElem_mem hlt)
      have hns : ns.take (k + 1) = ns.take k ++ [ns[k]] := List.take_succ_eq_append_getElem hlt
      have HNS := Lib.hid hns
      have hr1 := refN1 ns[k] hb
      have hrz := refNumV_size 1 ns[k]
      have hkk := refNum 1 ns[k] wr hb
      clear hns hb
      generalize ns[k] = n at *
      generalize refNumV 1 n = q at *
      obtain ⟨q1, q2'⟩ := q
      have hz1 : t.size + q1.size ≤ 9223372036854775807 := by have : q1.size ≤ 8 := hrz; omega
      have HR1 := Lib.hid hr1
      have HKK := Lib.hid hkk
      clear hr1 hkk
      cases okb
      all_goals
        go_wp2_with (go_at_call 22; refine HKK.out.mono ?_; rintro e w3 ⟨rfl, hf3⟩)
        go_roundw
        case rel =>
          refine ⟨k + 1, _, _, by omega, by go_num, rfl, rfl, hof.trans hf3 (by simp), ?_, Lib.hid ?_, Lib.hid ?_⟩
          · rw [ByteArray.size_append]
            have : q1.size ≤ 8 := hrz
            omega
          · rw [HNS.out, List.all_append, ← hok.out]
            simp [← HR1.out.1]
          · intro hh
            first
              | (cases hh; done)
              | (have e1 : (encN 1 n).2 = true := by rw [← HR1.out.1]; exact hh
                 rw [HNS.out, enc1_snoc, ← List.append_assoc, str_append, ← (hte.out (by simp)), ← HR1.out.2 e1])
        case measure => simp [intOf] <;> omega
    · obtain rfl : k = ns.length := by omega
      have hok' := hok.out
      have hte' := hte.out
      rw [List.take_length] at hok' hte'
      have hO := out_off H2.out.1 hof (by simp)
      have hF := H2.out.2.1
      have hofA := H2.out.2.2.trans hof (by simp)
      have hl := list_yes n0 a ns cap v1 [0, 1, 120] wr (by omega) (by simp) hO (by
        intro i h
        rcases HR.out with ⟨_, h0⟩ | ⟨x, c, hx, hc⟩
        · have := congrArg List.length h0
          rw [List.length_map] at this
          simp only [List.length_nil] at this
          omega
        · injection hx with hx _ _
          subst hx
          have h1 := hc i (by rw [List.length_map]; exact h)
          rw [List.getElem_map] at h1
          have hlt' := lt_of_cell h1
          rw [add_block] at hlt'
          refine ⟨x, rfl, fun hm => by have := hF _ hm; omega, ?_⟩
          rw [← h1]
          exact hofA.cell (lt_of_cell h1) (by simp))
      have hv : (listV ns).2 = okb ∧ str ([0, 1, 120] ++ (listV ns).1) = str [0, 1, 120] ++ (if okb then t else ⟨#[]⟩) := by
        cases okb
        · rw [listV_no ns hok'.symm]
          exact ⟨rfl, by simp [str]; rfl⟩
        · rw [listV_yes ns hok'.symm, str_append, hte' rfl]
          exact ⟨rfl, rfl⟩
      obtain ⟨hv1, hv2⟩ := hv
      rw [hv1] at hl
      generalize (listV ns).1 = L at *
      rw [show str [0, 1, 120] = ⟨#[0, 1, 120]⟩ by decide +kernel] at hv2
      have hz2 : (⟨#[0, 1, 120]⟩ : ByteArray).size + t.size ≤ 9223372036854775807 := by rw [show (⟨#[0, 1, 120]⟩ : ByteArray).size = 3 from rfl]; omega
      have HL := Lib.hid hl
      have HV2 := Lib.hid hv2
      clear hl hv2 hv1 hok hte hok' hte'
      cases okb
      all_goals
        go_wp2_with (first
          | (go_at_call 37; refine HL.out.mono ?_; rintro e w3 ⟨rfl, v3, h3, hg3, hf3⟩; have hk3 := outString n0 v3 _ w3 h3; rw [HV2.out] at hk3; simp only [ite_true, ite_false, Bool.false_eq_true] at hk3; have HK3 := Lib.hid hk3; clear hk3)
          | (go_at_call 26; refine HK3.out.mono ?_; rintro e w' ⟨rfl, rfl⟩)
          | (go_at_call 28; refine (inOf _ _).mono ?_; rintro e w4 ⟨bi, rfl, hbi, hi4, hf4⟩))
        have hofB : Off [] w w4 := ((hofA.fresh hf3 hF).trans hf4 (by simp))
        have hbw : bi < w4.heap.size := Blk.lt hi4
        have hbi2 : w.heap.size ≤ bi := by have := hofA.size; have := hf3.size; omega
        obtain ⟨⟨n, s1, b1⟩, hq⟩ : ∃ q, inNumV s false 2 = q := ⟨_, rfl⟩
        have hn16 : n ≤ 65535 := by have := inNumV_lt2 s false; rw [hq] at this; exact this
        have hs1 : s1.size ≤ 1024 := by have := inNumV_size s false 2 hs; rw [hq] at this; exact this
        clear HK3 HV2 HL h3 hg3 hf3 hf4 hofA hO H2 HR HWF hF hbi
        by_cases hnm : most < (n : Int)
        · have hk := read_over bi s false most w4 hi4 (by rw [hq]; exact hnm)
          rw [hq] at hk
          refine hk.mono ?_
          clear hk
          rintro e w5 ⟨rfl, hi5, hf5⟩
          have hbw5 : bi < w5.heap.size := Blk.lt hi5
          have hrf := refIn w5.heap.size s false _ 2 (show RefInAt _ _ s false from blk_new w5 #[.string s, .bool false] 57)
          rw [hq] at hrf
          have HRF := Lib.hid hrf
          have dm : decide (most < (n : Int)) = true := decide_eq_true hnm
          have hi6 : InAt (w5.alloc (.cells #[.string s, .bool false] 57)) bi s1 true := Blk.alloc hi5 _
          have hof6 : Off [] w w5 := hofB.fresh hf5 (by simpa using hbi2)
          have HI6 := Lib.hid hi6
          clear hrf hnm hi5 hi6 hf5 hq hi4
          cases b1
          all_goals
            go_wp2_with (first
              | (go_at_call 30; refine HRF.out.mono ?_; rintro e w6 ⟨rfl, hr6, hf6⟩; have r0 := Blk.cell hr6 0 (.string s1) rfl; have r1 := Blk.cell hr6 1 _ rfl; have hi7 := hf6.blk HI6.out (by simp; omega); have HI7 := Lib.hid hi7; clear hi7)
              | (go_at_call 33; refine (inBad bi s1 true _ HI7.out).mono ?_; rintro e w' ⟨rfl, rfl⟩))
            go_ret
            exact ⟨rfl, ((hof6.alloc _).fresh hf6 (by simp; exact hof6.size)).to_below⟩
        · refine (read_main bi s false most w4 hi4 n s1 b1 hq (by omega) hn16).mono ?_
          rintro e w5 ⟨v, rfl, hf5, hst⟩
          have hbw5 : bi < w5.heap.size := by have := hf5.size; omega
          have hrf := refIn w5.heap.size s false _ 2 (show RefInAt _ _ s false from blk_new w5 #[.string s, .bool false] 57)
          rw [hq] at hrf
          have HRF := Lib.hid hrf
          have dm : decide (most < (n : Int)) = false := decide_eq_false hnm
          have hof6 : Off [] w w5 := hofB.fresh hf5 (by simpa using hbi2)
          clear hrf hnm hf5 hq hi4 hofB
          rcases hst with ⟨rfl, hle, hi5, hown⟩ | ⟨hbad, rfl, s', hi5⟩
          · have hi6 : InAt (w5.alloc (.cells #[.string s, .bool false] 57)) bi (s1.extract n s1.size) false := Blk.alloc hi5 _
            have HI6 := Lib.hid hi6
            obtain ⟨va, vc, rfl⟩ := own_form hown
            have hrd := reads_owns hown
            have hcl : ∀ k (hk : k < n), ∃ x, va = some x ∧ w5.cell? (x.add k) = some (.int .i64 ((s1[k]'(by omega)).toNat : Int)) := by
              intro k hk
              have hkl : k < (ints ((nums s1).take n)).length := by simp [ints, nums_length]; omega
              rcases hrd with ⟨_, h0⟩ | ⟨x, c, hx, hc⟩
              · rw [h0] at hkl
                simp at hkl
              · injection hx with hx _ _
                refine ⟨x, hx, ?_⟩
                rw [hc k hkl]
                simp [ints, nums]
                rfl
            have HCL := Lib.hid hcl
            have ds : decide (s1.size < n) = false := decide_eq_false (by omega)
            have hz2 : (s1.extract n s1.size).size = s1.size - n := by rw [ByteArray.size_extract]; omega
            have HOW := Lib.hid hown
            clear hi5 hi6 hown hrd hcl
            go_wp2_with (first
              | (go_at_call 30; refine HRF.out.mono ?_; rintro e w6 ⟨rfl, hr6, hf6⟩; have r0 := Blk.cell hr6 0 (.string s1) rfl; have r1 := Blk.cell hr6 1 _ rfl; have hi7 := hf6.blk HI6.out (by simp; omega); have HI7 := Lib.hid hi7; clear hi7))
            have hcw : ∀ k (hk : k < n), ∃ x, va = some x ∧ w6.cell? (x.add k) = some (.int .i64 ((s1[k]'(by omega)).toNat : Int)) := by
              intro k hk
              obtain ⟨x, hx, h1⟩ := HCL.out k hk
              have hlt := lt_of_cell h1
              refine ⟨x, hx, ?_⟩
              rw [hf6.cell (by simp; omega) (by simp; omega), ← h1]
              exact ((Off.refl [] w5).alloc _).cell hlt (by simp)
            have hoff : Off [] w w6 := (hof6.alloc _).fresh hf6 (by simp; exact hof6.size)
            have hlq := Lib.hid (fun m => show Calls Try.prog 34 #[.pointer (some ⟨bi, 0, none⟩)] (w6.drewN m) fun e w' => e = .returned (.int .i64 ((s1.size : Int) - (n : Int))) ∧ w6.drewN m = w' by
              have h := inLeft bi _ _ (w6.drewN m) (Blk.drewN HI7.out m)
              rw [show inLeftV (s1.extract n s1.size) false = (s1.size : Int) - (n : Int) by simp only [inLeftV, Bool.false_eq_true, if_false]; omega] at h
              exact h)
            have hwr : IntKind.i64.wrap ((s1.size : Int) - (n : Int)) = (s1.size : Int) - (n : Int) := IntWalk.i64_in _ (by omega)
            clear HRF HI6 hf6 HCL HOW
            go_quiet (first
              | (go_at_call 34; exact quiet_mine (hlq.out _))
              | (go_at_call 33; exact quiet_mine (inBad bi _ _ _ (Blk.drewN HI7.out _))))
            go_wp2
            have HO6 := Lib.hid hoff
            clear hlq hwr HI7 hoff
            go_loopw [18] (fun vi wq => ∃ k : Nat, k ≤ n ∧ vi = .int .i64 k ∧ Off [] w6 wq) (fun vi _ => n - (intOf vi).toNat)
            case atStart => exact ⟨0, Nat.zero_le _, rfl, (Off.refl _ _).drewN _⟩
            case round =>
              obtain ⟨k, hk, rfl, hof7⟩ := hrel
              by_cases hlt2 : k < n
              · obtain ⟨x, rfl, hx0⟩ := hcw k hlt2
                have hx1 : wr.cell? (x.add k) = some (.int .i64 ((s1[k]'(by omega)).toNat : Int)) := by rw [← hx0]; exact hof7.cell (lt_of_cell hx0) (by simp)
                have r7 : wr.cell? ⟨w5.heap.size, 0, none⟩ = some (.string s1) := by rw [← r0]; exact hof7.cell (lt_of_cell r0) (by simp)
                have hks : k < s1.size := by omega
                have hkn : (k : Int) < (n : Int) := by omega
                have hkn2 : (k : Int) < (s1.size : Int) := by omega
                have hwr2 : wrap64 ((s1[k].toNat : Nat) : Int) = ((s1[k].toNat : Nat) : Int) := by
                  have := s1[k].toNat_lt
                  unfold wrap64
                  omega
                clear hx0 hcw r0 r1 hr6
                go_wp2
                go_quiet (fail)
                go_wp2
                go_roundw
                case rel => exact ⟨k + 1, by omega, by go_num, hof7.drewN _⟩
                case measure => simp [intOf] <;> omega
              · obtain rfl : k = n := by omega
                have e1 := list_nil (.slice a ns.length cap) a ns.length cap rfl (.func (.func 38) #[] #[])
                have e2 := list_nofunc n0 (.slice a ns.length cap) a ns.length cap rfl
                have e3 := read_nil 5 (by omega)
                go_wp2_with (first
                  | (go_at_call 37; with_reducible refine (e1 _).mono ?_; rintro e w7 ⟨rfl, rfl⟩)
                  | (go_at_call 37; with_reducible refine (e2 _).mono ?_; rintro e w7 ⟨rfl, rfl⟩)
                  | (go_at_call 39; refine (e3 _).mono ?_; rintro e w7 ⟨rfl, rfl⟩))
                go_ret
                exact ⟨rfl, (HO6.out.trans hof7 (by simp)).to_below⟩
          · have hi6 : InAt (w5.alloc (.cells #[.string s, .bool false] 57)) bi s' true := Blk.alloc hi5 _
            have HI6 := Lib.hid hi6
            have ds : b1 = true ∨ decide (s1.size < n) = true := by
              rcases hbad with h | h
              · exact .inl h
              · exact .inr (decide_eq_true (by omega))
            clear hi5 hi6 hbad
            rcases ds with rfl | ds
            all_goals try cases b1
            all_goals
              go_wp2_with (first
                | (go_at_call 30; refine HRF.out.mono ?_; rintro e w6 ⟨rfl, hr6, hf6⟩; have r0 := Blk.cell hr6 0 (.string s1) rfl; have r1 := Blk.cell hr6 1 _ rfl; have hi7 := hf6.blk HI6.out (by simp; omega); have HI7 := Lib.hid hi7; clear hi7)
                | (go_at_call 33; refine (inBad bi s' true _ HI7.out).mono ?_; rintro e w' ⟨rfl, rfl⟩))
              go_ret
              exact ⟨rfl, ((hof6.alloc _).fresh hf6 (by simp; exact hof6.size)).to_below⟩
set_option maxRecDepth 20000 in
theorem packLists (a : Option Addr) (len cap : Nat) (zs : List Int) (s : ByteArray) (most : Int) (w : World) (h : IntsAt .i64 w a len cap zs) (_ : s.size ≤ 140737488351232) (_ : (Lit.int .i64 most).wf = true) :
    Calls Try.prog 11 #[.slice a len cap, .string s, .int .i64 most] w fun e w' => e = .returned (.bool true) ∧ Below w.heap.size w w' := by
  by_cases hl : len ≤ 300
  · by_cases hs : s.size ≤ 1024
    · exact packLists_main a len cap zs s most w h hl hs
    · have da : decide ((300 : Int) < (len : Int)) = false := decide_eq_false (by omega)
      have db : decide ((1024 : Int) < (s.size : Int)) = true := decide_eq_true (by omega)
      clear h
      go_enter Try.func11, Try.ntmps11
      go_wp2_with (go_at_call 21; refine (awake _).mono ?_; rintro e w0 ⟨rfl, ho⟩)
      go_ret
      exact ⟨rfl, ho.to_below⟩
  · have da : decide ((300 : Int) < (len : Int)) = true := decide_eq_true (by omega)
    clear h
    go_enter Try.func11, Try.ntmps11
    go_wp2_with (go_at_call 21; refine (awake _).mono ?_; rintro e w0 ⟨rfl, ho⟩)
    go_ret
    exact ⟨rfl, ho.to_below⟩
end Go.Proofs.Ytpofjeenednjcaa.Pk
