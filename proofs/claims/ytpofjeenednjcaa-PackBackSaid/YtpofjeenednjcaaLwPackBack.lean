/- What was written is read as it was: the walk of the statement. -/
import Derived.Test.YtpofjeenednjcaaProg
import Derived.Below
import Derived.WalkKit
import Derived.KernelRfl
import Derived.RowKit3
import Derived.Deep.LoopGhost
import Derived.Deep.QuietTactic
import Derived.BigQuiet
import Derived.WideLaws
import Derived.Deep.DeepCutAuto
import Derived.Deep.CutBlock
import Derived.Lib.Hide
import Derived.Laws.BitsLemmas
import Derived.Laws.Bits64
import Derived.Laws.BitsAllLaws
import Derived.IntWalk
import Derived.Outline
import Derived.WalkSpells
import Derived.Test.YtpofjeenednjcaaMem
import Derived.Test.YtpofjeenednjcaaPkK
namespace Go.Proofs.Ytpofjeenednjcaa.Pk
open Go.RowKit Go.Proofs.Ytpofjeenednjcaa.Mem

set_option maxRecDepth 20000 in
set_option maxHeartbeats 6400000 in
theorem packBack_main (va : Value) (aa : List ActV) (a : Option Addr) (len cap : Nat) (zs : List Int) (w : World) (ha : RowsAt w va 5 (aa.map actCells)) (oka : ∀ a ∈ aa, ActOk a) (h : IntsAt .i64 w a len cap zs) (hl : len ≤ 100) :
    Calls Try.prog 12 #[va, .slice a len cap] w fun e w' => e = .returned (.bool true) ∧ Below w.heap.size w w' := by
  obtain ⟨xa, ca, rfl⟩ := rows_form ha
  obtain ⟨hr, hn, hwf⟩ := h.reads
  generalize zs.take len = ns at *
  subst hn
  clear h
  rw [List.length_map] at ha ⊢
  have da : decide ((100 : Int) < (ns.length : Int)) = false := decide_eq_false (by omega)
  have HR := Lib.hid hr
  have HA := Lib.hid ha
  clear hr ha hwf
  go_enter Try.func12, Try.ntmps12
  go_wp2_with (go_at_call 21; refine (awake _).mono ?_; rintro e w0 ⟨rfl, ho⟩)
  have hj : BMem w w0.heap.size (.slice (some ⟨w0.heap.size + 1, 0, none⟩) 0 0) [] [] (.slice none 0 0) ((w0.alloc (.cells #[.slice none 0 0] 42)).alloc (.cells #[] 44)) := by
    have s0 := Sep.old w w0 ho.size
    have s1 := s0.push (w' := w0.alloc (.cells #[.slice none 0 0] 42)) (F := foot w0.heap.size (.slice none 0 0)) (by simp) (by simp [foot, Value.ownBlock])
    have s2 := s1.push (w' := (w0.alloc (.cells #[.slice none 0 0] 42)).alloc (.cells #[] 44)) (F := (Value.slice (some ⟨w0.heap.size + 1, 0, none⟩) 0 0).ownBlock.toList) (by simp) (by simp [Value.ownBlock])
    exact ⟨OutAt.newOut.off ((Off.refl [] _).alloc _) (by simp) (by simp), owns_made _ _ (by simp) _ _, s2, (ho.alloc _).alloc _⟩
  have HJ := Lib.hid hj
  have hwn := ho.size
  clear hj ho
  generalize w0.heap.size = n0 at *
  go_loopw [6, 7] (fun vd vi wr => ∃ (k : Nat) (dn : List ActV) (xl : List Nat) (xv : Value), k ≤ aa.length ∧ k ≤ 40 ∧ vi = .int .i64 k ∧ BMem w n0 vd dn xl xv wr ∧ BackOk k dn xl) (fun _ vi _ => aa.length - (intOf vi).toNat)
  case atStart => exact ⟨0, [], [], _, Nat.zero_le _, Nat.zero_le _, rfl, HJ.out, ⟨rfl, by simp, by simp, by simp⟩⟩
  case round =>
    obtain ⟨k, dn, xl, xv, hk, hk40, rfl, hJ, hO⟩ := hrel
    clear HJ
    obtain ⟨a6, c6, rfl⟩ := own_form hJ.done
    by_cases hlt : k < aa.length ∧ k < 40
    · obtain ⟨hlt, hlt40⟩ := hlt
      have hltd : decide ((k : Int) < 40) = true := decide_eq_true (by omega)
      obtain ⟨x, rfl, hx⟩ : ∃ x, xa = some x ∧ CellsAt wr (x.add (k * 5)) (actCells aa[k]) := by
        rcases HA.out with ⟨_, h0⟩ | ⟨x, c, hx, hc⟩
        · have := congrArg List.length h0
          rw [List.length_map] at this
          simp only [List.length_nil] at this
          omega
        · injection hx with hx _ _
          subst hx
          have h1 := hc k (by simpa using hlt)
          rw [List.getElem_map] at h1
          exact ⟨x, rfl, h1.off hJ.off (by simp)⟩
      have hao : ActOk aa[k] := oka _ (List.getElem_mem hlt)
      have c0 := hx.first _ rfl
      have c1 := hx.next 0 _ rfl
      have c2 := hx.next 1 _ rfl
      have c3 := hx.next 2 _ rfl
      have c4 := hx.next 3 _ rfl
      clear hx
      generalize aa[k] = act at *
      obtain ⟨kind, wd, m, m2, s⟩ := act
      by_cases hs : s.size ≤ 1024
      · have hd : decide ((1024 : Int) < (s.size : Int)) = false := decide_eq_false (by omega)
        by_cases hk1 : kind = 1
        · subst hk1
          obtain ⟨⟨en, eb⟩, hen⟩ : ∃ q, encNN wd m m2 = q := ⟨_, rfl⟩
          have hen2 : ActV.enc2 ⟨1, wd, m, m2, s⟩ = (en, eb) := by rw [← hen]; rfl
          have hel : en.length ≤ 1100 := by have := encNN_len wd m m2; rw [hen] at this; exact Nat.le_trans this (by omega)
          have he0 : eb = false → en = [] := by intro hb; have := encNN_no wd m m2; rw [hen] at this; exact this hb
          have hxl : xl.length ≤ 1000000 := by have := hO.size; omega
          go_wp2_with fail
          have hJa := hJ.alloc (.cells #[.int .i64 1, .int .i64 wd, .int .i64 m, .int .i64 m2, .string s] 44)
          have HB := Lib.hid (show Blk _ _ (actA ⟨1, wd, m, m2, s⟩) _ from blk_new wr #[.int .i64 1, .int .i64 wd, .int .i64 m, .int .i64 m2, .string s] 44)
          have hnt : wr.heap.size ∉ foot n0 xv := fun hh => Nat.lt_irrefl _ (hJ.sep.below 1 rfl _ hh)
          have hnz : wr.heap.size ∉ (Value.slice a6 dn.length c6).ownBlock.toList := fun hh => Nat.lt_irrefl _ (hJ.sep.below 0 rfl _ hh)
          have hsz : (wr.alloc (.cells #[.int .i64 1, .int .i64 wd, .int .i64 m, .int .i64 m2, .string s] 44)).heap.size = wr.heap.size + 1 := by simp
          generalize wr.alloc (.cells #[.int .i64 1, .int .i64 wd, .int .i64 m, .int .i64 m2, .string s] 44) = wa at *
          clear c0 c1 c2 c3 c4 hJ
          generalize wr.heap.size = nb at *
          have hk := hJa.num2 hxl wd m m2 (nb + 1) hsz.symm
          rw [hen] at hk
          refine hk.mono ?_
          clear hk
          rintro e w3 ⟨rfl, xv', hJ3, hoX⟩
          have HB3 := Lib.hid (hoX.blk HB.out hnt)
          clear HB hoX hJa hsz
          have a0 := HB3.out.cell 0 (.int .i64 1) rfl; have a1 := HB3.out.cell 1 (.int .i64 wd) rfl; have a2' := HB3.out.cell 2 (.int .i64 m) rfl; have a3 := HB3.out.cell 3 (.int .i64 m2) rfl; have a4 := HB3.out.cell 4 (.string s) rfl
          have HEN := Lib.hid hen2
          have HE0 := Lib.hid he0
          have hao2 := Lib.hid hao
          clear hen hen2 he0 hao
          cases eb
          · go_wp2
            go_roundw
            case rel => exact ⟨k + 1, dn, xl, xv', by omega, by omega, by go_num, (by have := HE0.out (by first | rfl | trivial); subst this; rw [List.append_nil] at hJ3; exact hJ3), hO.skip⟩
            case measure => simp [intOf] <;> omega
          · have hdl := hO.len
            go_wp2_with (at_builtin; go_loud (refine hJ3.appDone (by omega) ⟨1, wd, m, m2, s⟩ w3.heap.size rfl rfl (.tmp 70) (.tmp 72) rfl rfl rfl ?_; intro a5 c5 w5 hJ5))
            go_roundw
            case rel => exact ⟨k + 1, dn ++ [⟨1, wd, m, m2, s⟩], xl ++ en, xv', by omega, by omega, by go_num, hJ5, hO.more _ en hao2.out hs HEN.out hel⟩
            case measure => simp [intOf] <;> omega
        · by_cases hk2 : kind = 2
          · subst hk2
            obtain ⟨⟨en, eb⟩, hen⟩ : ∃ q, encT s = q := ⟨_, rfl⟩
            have hen2 : ActV.enc2 ⟨2, wd, m, m2, s⟩ = (en, eb) := by rw [← hen]; rfl
            have hel : en.length ≤ 1100 := by have := encT_len s; rw [hen] at this; exact Nat.le_trans this (by omega)
            have he0 : eb = false → en = [] := by intro hb; have := encT_no s; rw [hen] at this; exact this hb
            have hxl : xl.length ≤ 1000000 := by have := hO.size; omega
            go_wp2_with fail
            have hJa := hJ.alloc (.cells #[.int .i64 2, .int .i64 wd, .int .i64 m, .int .i64 m2, .string s] 44)
            have HB := Lib.hid (show Blk _ _ (actA ⟨2, wd, m, m2, s⟩) _ from blk_new wr #[.int .i64 2, .int .i64 wd, .int .i64 m, .int .i64 m2, .string s] 44)
            have hnt : wr.heap.size ∉ foot n0 xv := fun hh => Nat.lt_irrefl _ (hJ.sep.below 1 rfl _ hh)
            have hnz : wr.heap.size ∉ (Value.slice a6 dn.length c6).ownBlock.toList := fun hh => Nat.lt_irrefl _ (hJ.sep.below 0 rfl _ hh)
            have hsz : (wr.alloc (.cells #[.int .i64 2, .int .i64 wd, .int .i64 m, .int .i64 m2, .string s] 44)).heap.size = wr.heap.size + 1 := by simp
            generalize wr.alloc (.cells #[.int .i64 2, .int .i64 wd, .int .i64 m, .int .i64 m2, .string s] 44) = wa at *
            clear c0 c1 c2 c3 c4 hJ
            generalize wr.heap.size = nb at *
            have hk := hJa.text hxl s
            rw [hen] at hk
            refine hk.mono ?_
            clear hk
            rintro e w3 ⟨rfl, xv', hJ3, hoX⟩
            have HB3 := Lib.hid (hoX.blk HB.out hnt)
            clear HB hoX hJa hsz
            have a0 := HB3.out.cell 0 (.int .i64 2) rfl; have a1 := HB3.out.cell 1 (.int .i64 wd) rfl; have a2' := HB3.out.cell 2 (.int .i64 m) rfl; have a3 := HB3.out.cell 3 (.int .i64 m2) rfl; have a4 := HB3.out.cell 4 (.string s) rfl
            have HEN := Lib.hid hen2
            have HE0 := Lib.hid he0
            have hao2 := Lib.hid hao
            clear hen hen2 he0 hao
            cases eb
            · go_wp2
              go_roundw
              case rel => exact ⟨k + 1, dn, xl, xv', by omega, by omega, by go_num, (by have := HE0.out (by first | rfl | trivial); subst this; rw [List.append_nil] at hJ3; exact hJ3), hO.skip⟩
              case measure => simp [intOf] <;> omega
            · have hdl := hO.len
              go_wp2_with (at_builtin; go_loud (refine hJ3.appDone (by omega) ⟨2, wd, m, m2, s⟩ w3.heap.size rfl rfl (.tmp 70) (.tmp 72) rfl rfl rfl ?_; intro a5 c5 w5 hJ5))
              go_roundw
              case rel => exact ⟨k + 1, dn ++ [⟨2, wd, m, m2, s⟩], xl ++ en, xv', by omega, by omega, by go_num, hJ5, hO.more _ en hao2.out hs HEN.out hel⟩
              case measure => simp [intOf] <;> omega
          · have hkb : (kind == 1) = false := by simpa using hk1
            have hkb2 : (kind == 2) = false := by simpa using hk2
            go_wp2
            go_roundw
            case rel => exact ⟨k + 1, dn, xl, xv, by omega, by omega, by go_num, hJ.alloc _, hO.skip⟩
            case measure => simp [intOf] <;> omega
      · have hd : decide ((1024 : Int) < (s.size : Int)) = true := decide_eq_true (by omega)
        go_wp2
        go_ret
        exact ⟨rfl, (hJ.off.alloc _).to_below⟩
    · have hor : (decide (k < aa.length) = false) ∨ decide (k < aa.length) = true ∧ decide ((k : Int) < 40) = false := by
        by_cases h1 : k < aa.length
        · exact .inr ⟨decide_eq_true h1, decide_eq_false (by omega)⟩
        · exact .inl (decide_eq_false h1)
      have hxl : xl.length ≤ 44000 := by have := hO.size; omega
      have hdl : dn.length ≤ 40 := by have := hO.len; omega
      have hly := list_yes n0 a ns cap xv xl wr (by omega) (by omega) hJ.x (by
        intro i h
        rcases HR.out with ⟨_, h0⟩ | ⟨x, c, hx, hc⟩
        · have := congrArg List.length h0
          rw [List.length_map] at this
          simp only [List.length_nil] at this
          omega
        · injection hx with hx _ _
          subst hx
          have h1 := hc i (by rw [List.length_map]; exact h)
          rw [List.getElem_map] at h1
          have hlt' := lt_of_cell h1
          rw [add_block] at hlt'
          refine ⟨x, rfl, fun hm => by have := hJ.sep.above (w := w) 1 2 (by decide) rfl rfl _ hm; omega, ?_⟩
          rw [← h1]
          exact hJ.off.cell (lt_of_cell h1) (by simp))
      obtain ⟨⟨L, lb⟩, hL⟩ : ∃ q, listV ns = q := ⟨_, rfl⟩
      rw [hL] at hly
      have hLL : L.length ≤ 1000 := by
        unfold listV at hL
        split at hL
        · injection hL with h1 _
          have := enc1_len ns
          rw [← h1, encL, List.length_append, beB_length]
          omega
        · injection hL with h1 _
          rw [← h1]
          simp
      have hL2 : (lb = false → L = []) ∧ (lb = true → L = encL ns ∧ (ns.all fun n => (encN 1 n).2) = true) := by
        unfold listV at hL
        split at hL
        · rename_i hall
          injection hL with h1 h2
          exact ⟨fun h => (by rw [← h2] at h; cases h), fun _ => ⟨h1.symm, hall⟩⟩
        · injection hL with h1 h2
          exact ⟨fun _ => h1.symm, fun h => (by rw [← h2] at h; cases h)⟩
      have HLT := Lib.hid (show ∀ c ∈ L, c < 256 from fun c hc => by
        cases lb
        · rw [hL2.1 rfl] at hc
          cases hc
        · rw [(hL2.2 rfl).1] at hc
          rcases List.mem_append.1 hc with h | h
          · exact beB_lt _ _ c h
          · exact enc1_lt ns (hL2.2 rfl).2 c h)
      have HL2 := Lib.hid hL2
      have HLY := Lib.hid hly
      have HO := Lib.hid hO
      clear hly hL2 hL hO hk hk40 hlt oka
      rcases hor with h1 | ⟨h1, h2⟩
      all_goals
        go_wp2_with (first
          | (go_at_call 37; refine HLY.out.mono ?_; rintro e w3 ⟨rfl, v3, h3, hg3, hf3⟩; have hst := Lib.hid (outString n0 v3 _ w3 h3); have HJ3 := Lib.hid (hJ.toX h3 hg3 hf3))
          | (go_at_call 26; refine hst.out.mono ?_; rintro e w' ⟨rfl, rfl⟩)
          | (go_at_call 28; refine (inOf _ _).mono ?_; rintro e w4 ⟨bi, rfl, hbi, hi4, hf4⟩))
        clear h3 hg3 hf3 hst HLY hJ
        have hD : RowsAt w4 (.slice a6 dn.length c6) 5 (dn.map actCells) := (rows_owns HJ3.out.done (by simp) (act_len dn)).off hf4 (by simp)
        have hbd : ∀ x, a6 = some x → x.block ≠ bi := fun x hx he => by
          have := HJ3.out.sep.below 0 rfl x.block (by rw [hx]; simp [Value.ownBlock])
          omega
        have HX4 := Lib.hid (out_off HJ3.out.x hf4 (by simp))
        have hbf : ∀ q ∈ foot n0 v3, q ∉ [bi] := fun q hq hm => by
          have := HJ3.out.sep.below 1 rfl q hq
          simp only [List.mem_singleton] at hm
          omega
        have hof4 : Off [] w w4 := HJ3.out.off.trans hf4 (by simp)
        have hwb : w.heap.size ≤ bi := Nat.le_trans HJ3.out.off.size hbi
        have hi4' : InAt w4 bi (str (encs2 (dn.drop 0) ++ L)) false := by
          rw [List.drop_zero, ← HO.out.text]
          exact hi4
        have hsz0 : (encs2 (dn.drop 0) ++ L).length ≤ 50000 := by
          rw [List.drop_zero, ← HO.out.text, List.length_append]
          omega
        have HI4 := Lib.hid hi4'
        have HOK := Lib.hid HO.out.ok
        have HTX := Lib.hid HO.out.text
        have hbw4 : bi < w4.heap.size := Blk.lt hi4
        clear hi4 hi4' hf4 HO HJ3 hbi
        go_loopw [11] (fun vi wq => ∃ j : Nat, j ≤ dn.length ∧ vi = .int .i64 j ∧ InAt wq bi (str (encs2 (dn.drop j) ++ L)) false ∧ (encs2 (dn.drop j) ++ L).length ≤ 50000 ∧ Off [bi] w4 wq) (fun vi _ => dn.length - (intOf vi).toNat)
        case atStart => exact ⟨0, Nat.zero_le _, rfl, HI4.out, hsz0, Off.refl _ _⟩
        case round =>
          obtain ⟨j, hj, rfl, hi5, hsz5, ho5⟩ := hrel
          clear HI4 hsz0
          by_cases hlt2 : j < dn.length
          · obtain ⟨x, rfl, hx⟩ : ∃ x, a6 = some x ∧ CellsAt wr (x.add (j * 5)) (actCells dn[j]) := by
              rcases hD with ⟨_, h0⟩ | ⟨x, c, hx, hc⟩
              · have := congrArg List.length h0
                rw [List.length_map] at this
                simp only [List.length_nil] at this
                omega
              · injection hx with hx _ _
                subst hx
                have h1 := hc j (by simpa using hlt2)
                rw [List.getElem_map] at h1
                exact ⟨x, rfl, h1.off ho5 (by rw [add_block]; simpa using hbd x rfl)⟩
            have hact := HOK.out _ (List.getElem_mem hlt2)
            rw [encs2_drop dn j hlt2, List.append_assoc] at hi5 hsz5
            have hsm : ∀ c ∈ encs2 (dn.drop (j + 1)) ++ L, c < 256 := by
              intro c hc
              rcases List.mem_append.1 hc with h | h
              · exact encs2_lt _ c h
              · exact HLT.out c h
            have c0 := hx.first _ rfl
            have c1 := hx.next 0 _ rfl
            have c2 := hx.next 1 _ rfl
            have c3 := hx.next 2 _ rfl
            have c4 := hx.next 3 _ rfl
            clear hx
            generalize hrest : encs2 (dn.drop (j + 1)) ++ L = rest at *
            generalize dn[j] = act at *
            obtain ⟨kind, wd, m, m2, s⟩ := act
            obtain ⟨⟨hao, hao2, _⟩, hak, has⟩ := hact
            have hs : s.size ≤ 1024 := has
            have hnb : wr.heap.size ≠ bi := by have := ho5.size; omega
            have hkk : kind = 1 ∨ kind = 2 := by
              unfold ActV.enc2 at hak
              by_cases h1 : kind = 1
              · exact .inl h1
              · by_cases h2 : kind = 2
                · exact .inr h2
                · rw [if_neg h1, if_neg h2] at hak
                  cases hak
            rcases hkk with rfl | rfl
            · obtain ⟨e1, e2, e3⟩ := encNN_yes wd m m2 hak
              have e4 : ActV.enc2 ⟨1, wd, m, m2, s⟩ = encNN wd m m2 := rfl
              rw [e4, e3, List.append_assoc] at hi5 hsz5
              have hsm2 : ∀ c ∈ (encN wd m2).1 ++ rest, c < 256 := by
                intro c hc
                rcases List.mem_append.1 hc with h | h
                · exact encN_lt _ _ c h
                · exact hsm c h
              obtain ⟨b1, b2⟩ := back_num wd m _ hsm2 hao.2 e1
              obtain ⟨b3, b4⟩ := back_num wd m2 _ hsm hao2.2 e2
              have hm1 : ((m.toNat : Nat) : Int) = m := Int.toNat_of_nonneg b2
              have hm2 : ((m2.toNat : Nat) : Int) = m2 := Int.toNat_of_nonneg b4
              have hlen : rest.length ≤ 50000 := by
                rw [List.length_append, List.length_append] at hsz5
                omega
              clear hsz5 e1 e2 e3 e4 hak hsm hsm2
              go_wp2_with fail
              have HB := Lib.hid (show Blk _ _ (actA ⟨1, wd, m, m2, s⟩) _ from blk_new wr #[.int .i64 1, .int .i64 wd, .int .i64 m, .int .i64 m2, .string s] 44)
              have hia := Blk.alloc hi5 (.cells #[.int .i64 1, .int .i64 wd, .int .i64 m, .int .i64 m2, .string s] 44)
              have hoa := ho5.alloc (.cells #[.int .i64 1, .int .i64 wd, .int .i64 m, .int .i64 m2, .string s] 44)
              generalize wr.alloc (.cells #[.int .i64 1, .int .i64 wd, .int .i64 m, .int .i64 m2, .string s] 44) = wa at *
              clear c0 c1 c2 c3 c4 hi5 ho5
              generalize wr.heap.size = nb at *
              have hk := inNum bi _ false wa wd hia
              rw [b1, hm1] at hk
              refine hk.mono ?_
              clear hk hia
              rintro e w5 ⟨rfl, hi6, ho6⟩
              have HB5 := Lib.hid (ho6.blk HB.out (by simpa using hnb))
              have a0 := HB5.out.cell 0 (.int .i64 1) rfl
              have a1 := HB5.out.cell 1 (.int .i64 wd) rfl
              have a2' := HB5.out.cell 2 (.int .i64 m) rfl
              have a3 := HB5.out.cell 3 (.int .i64 m2) rfl
              have a4 := HB5.out.cell 4 (.string s) rfl
              have hk := inNum bi _ false w5 wd hi6
              rw [b3, hm2] at hk
              go_wp2_with fail
              refine hk.mono ?_
              clear hk hi6 a0 a1 a2' a3 a4
              rintro e w6 ⟨rfl, hi7, ho7⟩
              have HB6 := Lib.hid (ho7.blk HB5.out (by simpa using hnb))
              have a0 := HB6.out.cell 0 (.int .i64 1) rfl
              have a1 := HB6.out.cell 1 (.int .i64 wd) rfl
              have a2' := HB6.out.cell 2 (.int .i64 m) rfl
              have a3 := HB6.out.cell 3 (.int .i64 m2) rfl
              have a4 := HB6.out.cell 4 (.string s) rfl
              clear b1 b2 b3 b4 hm1 hm2
              go_wp2
              go_roundw
              case rel => exact ⟨j + 1, by omega, by go_num, by rw [hrest]; exact hi7, by rw [hrest]; exact hlen, (hoa.trans ho6 (by simp)).trans ho7 (by simp)⟩
              case measure => simp [intOf] <;> omega
            · have e4 : ActV.enc2 ⟨2, wd, m, m2, s⟩ = encT s := rfl
              rw [e4] at hi5 hsz5 hak
              have b1 := back_text s rest hsm s.size (Int.le_refl _) hak
              have hlen : rest.length ≤ 50000 := by
                rw [List.length_append] at hsz5
                omega
              have hsz6 : (str ((encT s).1 ++ rest)).size ≤ 140737488351232 := by rw [str_size]; omega
              clear hsz5 e4 hak hsm
              go_wp2_with fail
              have HB := Lib.hid (show Blk _ _ (actA ⟨2, wd, m, m2, s⟩) _ from blk_new wr #[.int .i64 2, .int .i64 wd, .int .i64 m, .int .i64 m2, .string s] 44)
              have hia := Lib.hid (show InAt _ _ _ _ from Blk.alloc hi5 (.cells #[.int .i64 2, .int .i64 wd, .int .i64 m, .int .i64 m2, .string s] 44))
              have hoa := ho5.alloc (.cells #[.int .i64 2, .int .i64 wd, .int .i64 m, .int .i64 m2, .string s] 44)
              generalize wr.alloc (.cells #[.int .i64 2, .int .i64 wd, .int .i64 m, .int .i64 m2, .string s] 44) = wa at *
              clear c0 c1 c2 c3 c4 hi5 ho5
              generalize wr.heap.size = nb at *
              have B1 := Lib.hid b1
              have HZ := Lib.hid hsz6
              clear b1 hsz6
              go_region_held3 (fun w' => Blk w' nb (actA ⟨2, wd, m, m2, s⟩) 44 ∧ w'.cell? ⟨nb, 4, none⟩ = some (.string s))
                (refine keep1 4 _ ?_ rfl <;> first
                  | exact HB.out.drew
                  | exact hoA.blk HB.out.drew (by simpa using hnb))
                ((go_at_call 31; refine (inText bi (str ((encT s).1 ++ rest)) false _ s.size ?_ HZ.out).mono ?_; (focus (exact hia.out.drew)); rw [B1.out]; rintro e wA ⟨rfl, hiA, hoA⟩))
              all_goals
                go_wp2
                go_roundw
                case rel => exact ⟨j + 1, by omega, by go_num, by rw [hrest]; exact hiA, by rw [hrest]; exact hlen, hoa.trans hoA.of_drew (by simp)⟩
                case measure => simp [intOf] <;> omega
          · obtain rfl : j = dn.length := by omega
            rw [List.drop_length, show encs2 [] = [] from rfl, List.nil_append] at hi5
            have HX5 := Lib.hid (out_off HX4.out ho5 hbf)
            have hof5 : Off [] w wr := hof4.fresh ho5 (by simpa using hwb)
            have hD5 : RowsAt wr (.slice a6 dn.length c6) 5 (dn.map actCells) := hD.off ho5 (fun q hq hm => by
              simp only [List.mem_singleton] at hm
              subst hm
              cases a6 with
              | none => cases hq
              | some x =>
                have e : x.block = q := Option.some.inj hq
                exact hbd x rfl e)
            have hb5 : bi < wr.heap.size := by have := ho5.size; omega
            have hn0 : ∀ q ∈ foot n0 v3, q < wr.heap.size := out_lt HX5.out
            have hdw : ∀ x, a6 = some x → 0 < dn.length → x.block < wr.heap.size := fun x hx h0 => by
              rcases hD5 with ⟨_, h1⟩ | ⟨y, c, hy, hc⟩
              · have := congrArg List.length h1
                rw [List.length_map] at this
                simp only [List.length_nil] at this
                omega
              · injection hy with hy _ _
                obtain rfl : x = y := by rw [hx] at hy; exact Option.some.inj hy
                have h1 := hc 0 (by simpa using h0)
                have h2 := lt_of_cell (h1.first _ (by rw [List.getElem_map]; rfl))
                rw [add_block] at h2
                exact h2
            clear hD ho5 hof4 hsz5 HX4
            cases lb
            · have hL0 := HL2.out.1 rfl
              have hi6 : InAt wr bi (str []) false := by rw [hL0] at hi5; exact hi5
              clear hi5
              have hln := outLen n0 v3 _ wr HX5.out
              have hst := outString n0 v3 _ wr HX5.out
              have hend := inEnd bi _ false _ hi6
              rw [end_nil] at hend
              obtain ⟨tl, htl⟩ : ∃ tl, (xl ++ L).length = tl := ⟨_, rfl⟩
              rw [htl] at hln
              have htz : (str (xl ++ L)).size = tl := by rw [str_size, htl]
              have HTL := Lib.hid htl
              obtain ⟨tt, htt⟩ : ∃ tt, str (xl ++ L) = tt := ⟨_, rfl⟩
              rw [htt] at htz hst
              have HTT := Lib.hid htt
              clear htt htl hi6
              by_cases ht0 : tl = 0
              · have hd0 : ((tl : Int) == 0) = true := by rw [ht0]; rfl
                go_wp2_with (first
                  | (go_at_call 36; refine hend.mono ?_; rintro e w' ⟨rfl, rfl⟩)
                  | (go_at_call 27; refine hln.mono ?_; rintro e w' ⟨rfl, rfl⟩))
                go_ret
                exact ⟨rfl, hof5.to_below⟩
              · have hd0 : ((tl : Int) == 0) = false := by simpa using ht0
                have htlb : tl ≤ 51000 := by rw [← HTL.out, List.length_append]; omega
                obtain ⟨tm, hm, hmt, hme⟩ : ∃ tm : Nat, wrap64 ((tl : Int) - 1) = (tm : Int) ∧ tm ≤ tl ∧ Hid (tm = tl - 1) := ⟨tl - 1, by unfold wrap64; omega, by omega, Lib.hid rfl⟩
                go_wp2_with (first
                  | (go_at_call 36; refine hend.mono ?_; rintro e w' ⟨rfl, rfl⟩)
                  | (go_at_call 27; refine hln.mono ?_; rintro e w' ⟨rfl, rfl⟩)
                  | (go_at_call 26; refine hst.mono ?_; rintro e w' ⟨rfl, rfl⟩)
                  | (go_at_call 28; refine (inOf _ _).mono ?_; rintro e w8 ⟨bj, rfl, hbj, hj8, hf8⟩))
                have hcut : CutSt (encs2 (dn.drop 0) ++ L) (tt.extract 0 (tl - 1)) false := by
                  rw [List.drop_zero, ← HTX.out]
                  refine .inr ⟨fun h => ht0 (by rw [← HTL.out, h]; rfl), ?_, rfl⟩
                  rw [← HTT.out]
                  exact str_take_last _ _ (by rw [HTL.out])
                have hD8 : RowsAt w8 (.slice a6 dn.length c6) 5 (dn.map actCells) := hD5.off hf8 (by simp)
                have hbd8 : ∀ x, a6 = some x → 0 < dn.length → x.block ≠ bj := fun x hx h0 he => by
                  have := hdw x hx h0
                  omega
                have hwb8 : w.heap.size ≤ bj := Nat.le_trans hof5.size hbj
                have hof8 : Off [] w w8 := hof5.trans hf8 (by simp)
                have hbw8 : bj < w8.heap.size := Blk.lt hj8
                have hsz8 : (tt.extract 0 (tl - 1)).size ≤ 51000 := by rw [ByteArray.size_extract]; omega
                have HJ8 := Lib.hid hj8
                clear hend hln hst hm hd0 hf8 hj8 hbj HTT HTL
                generalize tt.extract 0 (tl - 1) = sj at *
                go_loopw [18] (fun vi wq => ∃ (jj : Nat) (s : ByteArray) (b : Bool), jj ≤ dn.length ∧ vi = .int .i64 jj ∧ InAt wq bj s b ∧ CutSt (encs2 (dn.drop jj) ++ L) s b ∧ s.size ≤ 51000 ∧ Off [bj] w8 wq) (fun vi _ => dn.length - (intOf vi).toNat)
                case atStart => exact ⟨0, _, false, Nat.zero_le _, rfl, HJ8.out, hcut, hsz8, Off.refl _ _⟩
                case round =>
                  obtain ⟨jj, s, b, hjj, rfl, hi9, hcs, hsz9, ho9⟩ := hrel
                  clear HJ8 hcut hsz8
                  by_cases hlt3 : jj < dn.length
                  · obtain ⟨x, rfl, hx⟩ : ∃ x, a6 = some x ∧ CellsAt wr (x.add (jj * 5)) (actCells dn[jj]) := by
                      rcases hD8 with ⟨_, h0⟩ | ⟨x, c, hx, hc⟩
                      · have := congrArg List.length h0
                        rw [List.length_map] at this
                        simp only [List.length_nil] at this
                        omega
                      · injection hx with hx _ _
                        subst hx
                        have h1 := hc jj (by simpa using hlt3)
                        rw [List.getElem_map] at h1
                        exact ⟨x, rfl, h1.off ho9 (by rw [add_block]; simpa using hbd8 x rfl (by omega))⟩
                    have hxb : x.block ≠ bj := hbd8 x rfl (by omega)
                    have hact := HOK.out _ (List.getElem_mem hlt3)
                    rw [encs2_drop dn jj hlt3, List.append_assoc] at hcs
                    have hsm : ∀ c ∈ encs2 (dn.drop (jj + 1)) ++ L, c < 256 := by
                      intro c hc
                      rcases List.mem_append.1 hc with h | h
                      · exact encs2_lt _ c h
                      · exact HLT.out c h
                    have c0 := hx.first _ rfl
                    have c1 := hx.next 0 _ rfl
                    clear hx
                    generalize hrest : encs2 (dn.drop (jj + 1)) ++ L = rest at *
                    generalize dn[jj] = act at *
                    obtain ⟨kind, wd, m, m2, t⟩ := act
                    obtain ⟨⟨hao, hao2, _⟩, hak, has⟩ := hact
                    have hts : t.size ≤ 1024 := has
                    have hkk : kind = 1 ∨ kind = 2 := by
                      unfold ActV.enc2 at hak
                      by_cases h1 : kind = 1
                      · exact .inl h1
                      · by_cases h2 : kind = 2
                        · exact .inr h2
                        · rw [if_neg h1, if_neg h2] at hak
                          cases hak
                    rcases hkk with rfl | rfl
                    · obtain ⟨e1, e2, e3⟩ := encNN_yes wd m m2 hak
                      have e4 : ActV.enc2 ⟨1, wd, m, m2, t⟩ = encNN wd m m2 := rfl
                      rw [e4, e3, List.append_assoc] at hcs
                      have hsm2 : ∀ c ∈ (encN wd m2).1 ++ rest, c < 256 := by
                        intro c hc
                        rcases List.mem_append.1 hc with h | h
                        · exact encN_lt _ _ c h
                        · exact hsm c h
                      have cs1 := num_cut wd m _ hsm2 hao.2 e1 s b hcs
                      have z1 := inNumV_size s b wd hsz9
                      have hk := inNum bj s b wr wd hi9
                      clear hcs hsm2 e1 e3 e4 hak hi9 hsz9
                      generalize inNumV s b wd = q at *
                      obtain ⟨q1, s1, b1⟩ := q
                      have cs2 := num_cut wd m2 _ hsm hao2.2 e2 _ _ cs1
                      have CS2 := Lib.hid cs2
                      clear cs1 cs2 e2 hsm
                      go_wp2_with fail
                      refine hk.mono ?_
                      rintro e w9 ⟨rfl, hi10, ho10⟩
                      have c1' : w9.cell? _ = _ := (ho10.cell (lt_of_cell c1) (by rw [add_block]; simpa using hxb)).trans c1
                      clear hk c0 c1
                      have hk := inNum bj s1 b1 w9 wd hi10
                      have z2 := inNumV_size s1 b1 wd z1
                      have cs2 := CS2.out
                      clear CS2 hi10
                      generalize inNumV s1 b1 wd = q at *
                      obtain ⟨q3, s2, b2⟩ := q
                      have CS2 := Lib.hid cs2
                      clear cs2
                      go_wp2_with (go_at_call 29; refine hk.mono ?_; rintro e w10 ⟨rfl, hi11, ho11⟩)
                      go_roundw
                      case rel => exact ⟨jj + 1, s2, b2, by omega, by go_num, hi11, by rw [hrest]; exact CS2.out, z2, (ho9.trans ho10 (by simp)).trans ho11 (by simp)⟩
                      case measure => simp [intOf] <;> omega
                    · have e4 : ActV.enc2 ⟨2, wd, m, m2, t⟩ = encT t := rfl
                      rw [e4] at hcs hak
                      have cs1 := text_cut t _ hsm hts hak s b hcs
                      have z1 := inTextV_size s b 1024 hsz9
                      have hk := inText bj s b wr 1024 hi9 (by omega)
                      clear hcs e4 hak hi9 hsz9 hsm
                      generalize inTextV s b 1024 = q at *
                      obtain ⟨q1, s1, b1⟩ := q
                      have CS1 := Lib.hid cs1
                      clear cs1
                      go_wp2_with (go_at_call 31; refine hk.mono ?_; rintro e w10 ⟨rfl, hi11, ho11⟩)
                      go_roundw
                      case rel => exact ⟨jj + 1, s1, b1, by omega, by go_num, hi11, by rw [hrest]; exact CS1.out, z1, ho9.trans ho11 (by simp)⟩
                      case measure => simp [intOf] <;> omega
                  · obtain rfl : jj = dn.length := by omega
                    rw [List.drop_length, show encs2 [] = [] from rfl, List.nil_append] at hcs
                    have hof9 : Off [] w wr := hof8.fresh ho9 (by simpa using hwb8)
                    rw [hL0] at hcs
                    obtain rfl : b = true := by
                      rcases hcs with h | ⟨h, _⟩
                      · exact h
                      · exact absurd rfl h
                    go_wp2_with (go_at_call 33; refine (inBad bj s true _ hi9).mono ?_; rintro e w' ⟨rfl, rfl⟩)
                    go_ret
                    exact ⟨rfl, hof9.to_below⟩
            · obtain ⟨hLe, hall⟩ := HL2.out.2 rfl
              obtain ⟨q1, q2, q3⟩ := list_back ns hall hl
              rw [hLe] at hi5
              have hrm := read_main bi (str (encL ns)) false ns.length wr hi5 ns.length (str (enc1 ns)) false q1 (Int.le_refl _) (by omega)
              have he0 : (str (enc1 ns)).extract ns.length (str (enc1 ns)).size = str [] := by
                rw [q2]
                apply ByteArray.ext
                simp [str]
              rw [q3, he0] at hrm
              have Q2 := Lib.hid q2
              have HRM := Lib.hid hrm
              have HLE := Lib.hid hLe
              have HALL := Lib.hid hall
              clear q1 q2 q3 he0 hrm hi5 hLe hall
              go_wp2_with (go_at_call 39; refine HRM.out.mono ?_; rintro e w5 ⟨v, rfl, ho6, hst⟩; (have hst2 : InAt w5 bi (str []) false ∧ w5.ownsRow wr.heap.size 3 1 v ns.length (ns.map (Value.int .i64)) := (by rcases hst with ⟨_, _, h1, h2⟩ | ⟨h1, _⟩; exact ⟨h1, h2⟩; rcases h1 with h1 | h1; cases h1; (have := Q2.out; omega))); obtain ⟨hi6, hown⟩ := hst2; obtain ⟨va, vc, rfl⟩ := own_form hown)
              clear hst HRM
              have hof6 : Off [] w w5 := hof5.fresh ho6 (by simpa using hwb)
              have hrd := reads_owns hown
              have HX6 := Lib.hid (out_off HX5.out ho6 hbf)
              have hdw6 : ∀ x, a6 = some x → 0 < dn.length → x.block < w5.heap.size := fun x hx h0 => Nat.lt_of_lt_of_le (hdw x hx h0) ho6.size
              have hD6 : RowsAt w5 (.slice a6 dn.length c6) 5 (dn.map actCells) := hD5.off ho6 (fun q hq hm => by
                simp only [List.mem_singleton] at hm
                subst hm
                cases a6 with
                | none => cases hq
                | some x =>
                  have e : x.block = q := Option.some.inj hq
                  exact hbd x rfl e)
              have hcl : ∀ k (hk : k < ns.length), ∃ y z, va = some y ∧ a = some z ∧ w5.cell? (y.add k) = some (.int .i64 ns[k]) ∧ w5.cell? (z.add k) = some (.int .i64 ns[k]) := by
                intro k hk
                rcases hrd with ⟨_, h0⟩ | ⟨y, c, hy, hc⟩
                · have := congrArg List.length h0
                  rw [List.length_map] at this
                  simp only [List.length_nil] at this
                  omega
                · rcases HR.out with ⟨_, h0⟩ | ⟨z, c', hz, hc'⟩
                  · have := congrArg List.length h0
                    rw [List.length_map] at this
                    simp only [List.length_nil] at this
                    omega
                  · injection hy with hy _ _
                    injection hz with hz _ _
                    have h1 := hc k (by rw [List.length_map]; exact hk)
                    have h2 := hc' k (by rw [List.length_map]; exact hk)
                    rw [List.getElem_map] at h1 h2
                    exact ⟨y, z, hy, hz, h1, (hof6.cell (lt_of_cell h2) (by simp)).trans h2⟩
              clear hrd hown hof5 hD5 hn0 ho6 hdw HX5
              have HI6 := Lib.hid hi6
              have HOF6 := Lib.hid hof6
              clear hi6 hof6
              go_loopw [16] (fun vi wq => ∃ k : Nat, k ≤ ns.length ∧ vi = .int .i64 k ∧ Off [] w5 wq) (fun vi _ => ns.length - (intOf vi).toNat)
              case atStart => exact ⟨0, Nat.zero_le _, rfl, Off.refl _ _⟩
              case round =>
                obtain ⟨k3, hk3, rfl, ho7⟩ := hrel
                by_cases hlt4 : k3 < ns.length
                · obtain ⟨y, z, rfl, rfl, hy0, hz0⟩ := hcl k3 hlt4
                  have hy1 : wr.cell? (y.add k3) = some (.int .i64 ns[k3]) := (ho7.cell (lt_of_cell hy0) (by simp)).trans hy0
                  have hz1 : wr.cell? (z.add k3) = some (.int .i64 ns[k3]) := (ho7.cell (lt_of_cell hz0) (by simp)).trans hz0
                  have hkn : (k3 : Int) < (ns.length : Int) := by omega
                  clear hy0 hz0 hcl
                  generalize ns[k3] = nk at *
                  go_wp2
                  go_quiet (fail)
                  go_wp2
                  go_roundw
                  case rel => exact ⟨k3 + 1, by omega, by go_num, ho7.drewN _⟩
                  case measure => simp [intOf] <;> omega
                · obtain rfl : k3 = ns.length := by omega
                  have hi8 : InAt wr bi (str []) false := ho7.blk HI6.out (by simp)
                  have HX7 := Lib.hid (out_off HX6.out ho7 (by simp))
                  have hof7 : Off [] w wr := HOF6.out.trans ho7 (by simp)
                  have hD7 : RowsAt wr (.slice a6 dn.length c6) 5 (dn.map actCells) := hD6.off ho7 (by simp)
                  have hdw7 : ∀ x, a6 = some x → 0 < dn.length → x.block < wr.heap.size := fun x hx h0 => Nat.lt_of_lt_of_le (hdw6 x hx h0) ho7.size
                  clear hcl HI6 HX6 HOF6 hD6 hdw6 ho7
                  have hln := outLen n0 v3 _ wr HX7.out
                  have hst := outString n0 v3 _ wr HX7.out
                  have hend := inEnd bi _ false _ hi8
                  rw [end_nil] at hend
                  obtain ⟨tl, htl⟩ : ∃ tl, (xl ++ L).length = tl := ⟨_, rfl⟩
                  rw [htl] at hln
                  have htz : (str (xl ++ L)).size = tl := by rw [str_size, htl]
                  have HTL := Lib.hid htl
                  obtain ⟨tt, htt⟩ : ∃ tt, str (xl ++ L) = tt := ⟨_, rfl⟩
                  rw [htt] at htz hst
                  have HTT := Lib.hid htt
                  clear htt htl hi8
                  by_cases ht0 : tl = 0
                  · have hd0 : ((tl : Int) == 0) = true := by rw [ht0]; rfl
                    go_wp2_with (first
                      | (go_at_call 36; refine hend.mono ?_; rintro e w' ⟨rfl, rfl⟩)
                      | (go_at_call 27; refine hln.mono ?_; rintro e w' ⟨rfl, rfl⟩))
                    go_ret
                    exact ⟨rfl, hof7.to_below⟩
                  · have hd0 : ((tl : Int) == 0) = false := by simpa using ht0
                    have htlb : tl ≤ 51000 := by rw [← HTL.out, List.length_append]; omega
                    obtain ⟨tm, hm, hmt, hme⟩ : ∃ tm : Nat, wrap64 ((tl : Int) - 1) = (tm : Int) ∧ tm ≤ tl ∧ Hid (tm = tl - 1) := ⟨tl - 1, by unfold wrap64; omega, by omega, Lib.hid rfl⟩
                    go_wp2_with (first
                      | (go_at_call 36; refine hend.mono ?_; rintro e w' ⟨rfl, rfl⟩)
                      | (go_at_call 27; refine hln.mono ?_; rintro e w' ⟨rfl, rfl⟩)
                      | (go_at_call 26; refine hst.mono ?_; rintro e w' ⟨rfl, rfl⟩)
                      | (go_at_call 28; refine (inOf _ _).mono ?_; rintro e w8 ⟨bj, rfl, hbj, hj8, hf8⟩))
                    have hcut : CutSt (encs2 (dn.drop 0) ++ L) (tt.extract 0 (tl - 1)) false := by
                      rw [List.drop_zero, ← HTX.out]
                      refine .inr ⟨fun h => ht0 (by rw [← HTL.out, h]; rfl), ?_, rfl⟩
                      rw [← HTT.out]
                      exact str_take_last _ _ (by rw [HTL.out])
                    have hD8 : RowsAt w8 (.slice a6 dn.length c6) 5 (dn.map actCells) := hD7.off hf8 (by simp)
                    have hbd8 : ∀ x, a6 = some x → 0 < dn.length → x.block ≠ bj := fun x hx h0 he => by
                      have := hdw7 x hx h0
                      omega
                    have hwb8 : w.heap.size ≤ bj := Nat.le_trans hof7.size hbj
                    have hof8 : Off [] w w8 := hof7.trans hf8 (by simp)
                    have hbw8 : bj < w8.heap.size := Blk.lt hj8
                    have hsz8 : (tt.extract 0 (tl - 1)).size ≤ 51000 := by rw [ByteArray.size_extract]; omega
                    have HJ8 := Lib.hid hj8
                    clear hend hln hst hm hd0 hf8 hj8 hbj HTT HTL
                    generalize tt.extract 0 (tl - 1) = sj at *
                    go_loopw [18] (fun vi wq => ∃ (jj : Nat) (s : ByteArray) (b : Bool), jj ≤ dn.length ∧ vi = .int .i64 jj ∧ InAt wq bj s b ∧ CutSt (encs2 (dn.drop jj) ++ L) s b ∧ s.size ≤ 51000 ∧ Off [bj] w8 wq) (fun vi _ => dn.length - (intOf vi).toNat)
                    case atStart => exact ⟨0, _, false, Nat.zero_le _, rfl, HJ8.out, hcut, hsz8, Off.refl _ _⟩
                    case round =>
                      obtain ⟨jj, s, b, hjj, rfl, hi9, hcs, hsz9, ho9⟩ := hrel
                      clear HJ8 hcut hsz8
                      by_cases hlt3 : jj < dn.length
                      · obtain ⟨x, rfl, hx⟩ : ∃ x, a6 = some x ∧ CellsAt wr (x.add (jj * 5)) (actCells dn[jj]) := by
                          rcases hD8 with ⟨_, h0⟩ | ⟨x, c, hx, hc⟩
                          · have := congrArg List.length h0
                            rw [List.length_map] at this
                            simp only [List.length_nil] at this
                            omega
                          · injection hx with hx _ _
                            subst hx
                            have h1 := hc jj (by simpa using hlt3)
                            rw [List.getElem_map] at h1
                            exact ⟨x, rfl, h1.off ho9 (by rw [add_block]; simpa using hbd8 x rfl (by omega))⟩
                        have hxb : x.block ≠ bj := hbd8 x rfl (by omega)
                        have hact := HOK.out _ (List.getElem_mem hlt3)
                        rw [encs2_drop dn jj hlt3, List.append_assoc] at hcs
                        have hsm : ∀ c ∈ encs2 (dn.drop (jj + 1)) ++ L, c < 256 := by
                          intro c hc
                          rcases List.mem_append.1 hc with h | h
                          · exact encs2_lt _ c h
                          · exact HLT.out c h
                        have c0 := hx.first _ rfl
                        have c1 := hx.next 0 _ rfl
                        clear hx
                        generalize hrest : encs2 (dn.drop (jj + 1)) ++ L = rest at *
                        generalize dn[jj] = act at *
                        obtain ⟨kind, wd, m, m2, t⟩ := act
                        obtain ⟨⟨hao, hao2, _⟩, hak, has⟩ := hact
                        have hts : t.size ≤ 1024 := has
                        have hkk : kind = 1 ∨ kind = 2 := by
                          unfold ActV.enc2 at hak
                          by_cases h1 : kind = 1
                          · exact .inl h1
                          · by_cases h2 : kind = 2
                            · exact .inr h2
                            · rw [if_neg h1, if_neg h2] at hak
                              cases hak
                        rcases hkk with rfl | rfl
                        · obtain ⟨e1, e2, e3⟩ := encNN_yes wd m m2 hak
                          have e4 : ActV.enc2 ⟨1, wd, m, m2, t⟩ = encNN wd m m2 := rfl
                          rw [e4, e3, List.append_assoc] at hcs
                          have hsm2 : ∀ c ∈ (encN wd m2).1 ++ rest, c < 256 := by
                            intro c hc
                            rcases List.mem_append.1 hc with h | h
                            · exact encN_lt _ _ c h
                            · exact hsm c h
                          have cs1 := num_cut wd m _ hsm2 hao.2 e1 s b hcs
                          have z1 := inNumV_size s b wd hsz9
                          have hk := inNum bj s b wr wd hi9
                          clear hcs hsm2 e1 e3 e4 hak hi9 hsz9
                          generalize inNumV s b wd = q at *
                          obtain ⟨q1, s1, b1⟩ := q
                          have cs2 := num_cut wd m2 _ hsm hao2.2 e2 _ _ cs1
                          have CS2 := Lib.hid cs2
                          clear cs1 cs2 e2 hsm
                          go_wp2_with fail
                          refine hk.mono ?_
                          rintro e w9 ⟨rfl, hi10, ho10⟩
                          have c1' : w9.cell? _ = _ := (ho10.cell (lt_of_cell c1) (by rw [add_block]; simpa using hxb)).trans c1
                          clear hk c0 c1
                          have hk := inNum bj s1 b1 w9 wd hi10
                          have z2 := inNumV_size s1 b1 wd z1
                          have cs2 := CS2.out
                          clear CS2 hi10
                          generalize inNumV s1 b1 wd = q at *
                          obtain ⟨q3, s2, b2⟩ := q
                          have CS2 := Lib.hid cs2
                          clear cs2
                          go_wp2_with (go_at_call 29; refine hk.mono ?_; rintro e w10 ⟨rfl, hi11, ho11⟩)
                          go_roundw
                          case rel => exact ⟨jj + 1, s2, b2, by omega, by go_num, hi11, by rw [hrest]; exact CS2.out, z2, (ho9.trans ho10 (by simp)).trans ho11 (by simp)⟩
                          case measure => simp [intOf] <;> omega
                        · have e4 : ActV.enc2 ⟨2, wd, m, m2, t⟩ = encT t := rfl
                          rw [e4] at hcs hak
                          have cs1 := text_cut t _ hsm hts hak s b hcs
                          have z1 := inTextV_size s b 1024 hsz9
                          have hk := inText bj s b wr 1024 hi9 (by omega)
                          clear hcs e4 hak hi9 hsz9 hsm
                          generalize inTextV s b 1024 = q at *
                          obtain ⟨q1, s1, b1⟩ := q
                          have CS1 := Lib.hid cs1
                          clear cs1
                          go_wp2_with (go_at_call 31; refine hk.mono ?_; rintro e w10 ⟨rfl, hi11, ho11⟩)
                          go_roundw
                          case rel => exact ⟨jj + 1, s1, b1, by omega, by go_num, hi11, by rw [hrest]; exact CS1.out, z1, ho9.trans ho11 (by simp)⟩
                          case measure => simp [intOf] <;> omega
                      · obtain rfl : jj = dn.length := by omega
                        rw [List.drop_length, show encs2 [] = [] from rfl, List.nil_append] at hcs
                        have hof9 : Off [] w wr := hof8.fresh ho9 (by simpa using hwb8)
                        rw [HLE.out] at hcs
                        obtain ⟨n, s1, b1, hq, hn, hbd⟩ := list_cut ns HALL.out hl s b hcs
                        have hrm := Lib.hid (read_main bj s b 100 wr hi9 n s1 b1 hq (by omega) (by omega))
                        have HBD := Lib.hid hbd
                        clear hq hbd hcs
                        go_wp2_with (first
                          | (go_at_call 39; refine hrm.out.mono ?_; rintro e w10 ⟨v, rfl, ho10, hst⟩; (have hs2 : ∃ s', InAt w10 bj s' true := (by rcases hst with ⟨h1, h2, _⟩ | ⟨_, _, h⟩; (rcases HBD.out with h3 | h3; (rw [h1] at h3; cases h3); omega); exact h)); obtain ⟨s', hi12⟩ := hs2; clear hst)
                          | (go_at_call 33; refine (inBad bj s' true _ hi12).mono ?_; rintro e w' ⟨rfl, rfl⟩))
                        go_ret
                        exact ⟨rfl, (hof9.fresh ho10 (by simpa using hwb8)).to_below⟩
set_option maxRecDepth 20000 in
theorem packBack (va : Value) (aa : List ActV) (a : Option Addr) (len cap : Nat) (zs : List Int) (w : World) (ha : RowsAt w va 5 (aa.map actCells)) (oka : ∀ a ∈ aa, ActOk a) (h : IntsAt .i64 w a len cap zs) :
    Calls Try.prog 12 #[va, .slice a len cap] w fun e w' => e = .returned (.bool true) ∧ Below w.heap.size w w' := by
  by_cases hl : len ≤ 100
  · exact packBack_main va aa a len cap zs w ha oka h hl
  · have da : decide ((100 : Int) < (len : Int)) = true := decide_eq_true (by omega)
    obtain ⟨xa, ca, rfl⟩ := rows_form ha
    clear ha h
    go_enter Try.func12, Try.ntmps12
    go_wp2_with (go_at_call 21; refine (awake _).mono ?_; rintro e w0 ⟨rfl, ho⟩)
    go_ret
    exact ⟨rfl, ho.to_below⟩
end Go.Proofs.Ytpofjeenednjcaa.Pk
