/- What two writers write is what one writes, and reads back: the walk of the statement. -/
import Derived.Test.YtpofjeenednjcaaProg
import Derived.Below
import Derived.WalkKit
import Derived.KernelRfl
import Derived.RowKit3
import Derived.Deep.LoopGhost
import Derived.Deep.QuietTactic
import Derived.BigQuiet
import Derived.WideLaws
import Derived.Deep.DeepCutAuto
import Derived.Deep.CutBlock
import Derived.Lib.Hide
import Derived.Laws.BitsLemmas
import Derived.Laws.Bits64
import Derived.Laws.BitsAllLaws
import Derived.IntWalk
import Derived.Outline
import Derived.WalkSpells
import Derived.Test.YtpofjeenednjcaaMem
import Derived.Test.YtpofjeenednjcaaPkJ
namespace Go.Proofs.Ytpofjeenednjcaa.Pk
open Go.RowKit Go.Proofs.Ytpofjeenednjcaa.Mem

set_option maxRecDepth 20000 in
set_option maxHeartbeats 6400000 in
theorem packJoins_main (va vb : Value) (aa bb : List ActV) (w : World) (ha : RowsAt w va 5 (aa.map actCells)) (hb : RowsAt w vb 5 (bb.map actCells)) (oka : ∀ a ∈ aa, ActOk a) (okb : ∀ a ∈ bb, ActOk a) (la : aa.length ≤ 30) (lb : bb.length ≤ 30) :
    Calls Try.prog 10 #[va, vb] w fun e w' => e = .returned (.bool true) ∧ Below w.heap.size w w' := by
  obtain ⟨xa, ca, rfl⟩ := rows_form ha
  obtain ⟨xb, cb, rfl⟩ := rows_form hb
  rw [List.length_map] at ha hb ⊢
  rw [List.length_map]
  have da : decide ((30 : Int) < (aa.length : Int)) = false := decide_eq_false (by omega)
  have db : decide ((30 : Int) < (bb.length : Int)) = false := decide_eq_false (by omega)
  obtain ⟨i0, hi, hz0, hz1, hz2⟩ : ∃ i, Try.prog.info? 44 = some i ∧ i.zero = some (.agg #[.int .i64 0, .int .i64 0, .int .i64 0, .int .i64 0, .string ⟨#[]⟩]) ∧ i.size = 5 ∧ i.bytes = 48 := by
    obtain ⟨i, hi, h⟩ := Option.map_eq_some_iff.1 info_act
    simp only [Prod.mk.injEq] at h
    exact ⟨i, hi, h.1, h.2.1, h.2.2⟩
  go_enter Try.func10, Try.ntmps10
  go_wp2_with (first
    | (go_at_call 21; refine (awake _).mono ?_; rintro e w0 ⟨rfl, ho⟩)
    | (at_builtin; go_loud (refine wpList_append_rows _ rfl (.tmp 38) (.tmp 39) 39 rfl 0 44 i0 _ 5 48 Try.underlying39 hi hz0 hz1 hz2 rfl (by decide) (.slice a1 aa.length c1) _ _ rfl hown1 _ (bb.map actCells) rfl (hb.off hof1 (by simp)) (act_len bb) (act_one bb) (by unfold maxLen; simp; omega) (by simp; omega) (Nat.zero_le _) ?_; intro v2 w2 hown2 hgrow2 hg2; rw [List.length_map, ← List.flatten_append, ← List.map_append] at hown2; obtain ⟨a2, c2, rfl⟩ := own_form hown2))
    | (at_builtin; go_loud (refine wpList_append_rows _ rfl (.tmp 36) (.tmp 37) 39 rfl 0 44 i0 _ 5 48 Try.underlying39 hi hz0 hz1 hz2 rfl (by decide) (.slice (some ⟨w0.heap.size + 1 + 1 + 1, 0, none⟩) 0 0) _ _ rfl (owns_made _ (w0.heap.size + 1 + 1 + 1) (by simp) _ _) _ (aa.map actCells) rfl (ha.off ((((ho.alloc _).alloc _).alloc _).alloc _) (by simp)) (act_len aa) (act_one aa) (by unfold maxLen; simp; omega) (by simp; omega) (Nat.zero_le _) ?_; intro v1 w1 hown1 hgrow1 hg1; rw [List.length_map, Nat.zero_add, List.nil_append] at hown1; obtain ⟨a1, c1, rfl⟩ := own_form hown1; have hof1 := ((((ho.alloc _).alloc _).alloc _).alloc _).grown hgrow1 (fun k hk => .inr (by have e : w0.heap.size + 1 + 1 + 1 = k := Option.some.inj hk; have := ho.size; omega)))))
  have hj : (JMem (aa ++ bb) w w0.heap.size (.slice a2 (aa.length + bb.length) c2) (.slice (some ⟨w2.heap.size, 0, none⟩) 0 0) (.slice (some ⟨w2.heap.size + 1, 0, none⟩) 0 0) [] [] [] [] [] (.slice none 0 0) (.slice none 0 0) (.slice none 0 0) ((w2.alloc (.cells #[] 3)).alloc (.cells #[] 44))) := by
    have s0 := Sep.old w w0 ho.size
    have s1 := s0.push (w' := w0.alloc (.cells #[.slice none 0 0] 42)) (F := foot w0.heap.size (.slice none 0 0)) (by simp) (by simp [foot, Value.ownBlock])
    have s2 := s1.push (w' := (w0.alloc (.cells #[.slice none 0 0] 42)).alloc (.cells #[.slice none 0 0] 42)) (F := foot (w0.heap.size + 1) (.slice none 0 0)) (by simp) (by simp [foot, Value.ownBlock])
    have s3 := s2.push (w' := ((w0.alloc (.cells #[.slice none 0 0] 42)).alloc (.cells #[.slice none 0 0] 42)).alloc (.cells #[.slice none 0 0] 42)) (F := foot (w0.heap.size + 1 + 1) (.slice none 0 0)) (by simp) (by simp [foot, Value.ownBlock])
    have s4 := s3.push (w' := (((w0.alloc (.cells #[.slice none 0 0] 42)).alloc (.cells #[.slice none 0 0] 42)).alloc (.cells #[.slice none 0 0] 42)).alloc (.cells #[] 44)) (F := (Value.slice (some ⟨w0.heap.size + 1 + 1 + 1, 0, none⟩) 0 0).ownBlock.toList) (by simp) (by simp [Value.ownBlock])
    have s5 := s4.step (pre := []) (Grow.own hg1) hgrow1.size (owns_lt hown1)
    have s6 := s5.step (pre := []) (Grow.own hg2) hgrow2.size (owns_lt hown2)
    have s7 := s6.push (w' := w2.alloc (.cells #[] 3)) (F := (Value.slice (some ⟨w2.heap.size, 0, none⟩) 0 0).ownBlock.toList) (by simp) (by simp [Value.ownBlock])
    have s8 := s7.push (w' := (w2.alloc (.cells #[] 3)).alloc (.cells #[] 44)) (F := (Value.slice (some ⟨w2.heap.size + 1, 0, none⟩) 0 0).ownBlock.toList) (by simp) (by simp [Value.ownBlock])
    have o1 := off_grown hgrow1
    have o2 := off_grown hgrow2
    have o3 : Off [] w2 ((w2.alloc (.cells #[] 3)).alloc (.cells #[] 44)) := ((Off.refl [] w2).alloc _).alloc _
    have off4 : ∀ (b : Nat) (wq : World), OutAt wq b (.slice none 0 0) [] → Off [] wq ((((w0.alloc (.cells #[.slice none 0 0] 42)).alloc (.cells #[.slice none 0 0] 42)).alloc (.cells #[.slice none 0 0] 42)).alloc (.cells #[] 44)) →
        (∀ k ∈ foot b (.slice none 0 0), k ∉ (Value.slice (some ⟨w0.heap.size + 1 + 1 + 1, 0, none⟩) 0 0).ownBlock.toList) → (∀ k ∈ foot b (.slice none 0 0), k ∉ (Value.slice a1 aa.length c1).ownBlock.toList) →
        OutAt ((w2.alloc (.cells #[] 3)).alloc (.cells #[] 44)) b (.slice none 0 0) [] := fun b wq hq oq d1 d2 =>
      (out_off (out_off (hq.off oq (by simp) (by simp)) o1 d1) o2 d2).off o3 (by simp) (by simp)
    refine ⟨off4 _ _ OutAt.newOut ((((Off.refl [] _).alloc _).alloc _).alloc _) (s4.apart 3 0 (by decide) rfl rfl) (s5.apart 3 0 (by decide) rfl rfl),
      off4 _ _ (by have := OutAt.newOut (w := w0.alloc (.cells #[.slice none 0 0] 42)); simpa using this) (((Off.refl [] _).alloc _).alloc _) (s4.apart 2 0 (by decide) rfl rfl) (s5.apart 2 0 (by decide) rfl rfl),
      off4 _ _ (by have := OutAt.newOut (w := (w0.alloc (.cells #[.slice none 0 0] 42)).alloc (.cells #[.slice none 0 0] 42)); simpa using this) ((Off.refl [] _).alloc _) (s4.apart 1 0 (by decide) rfl rfl) (s5.apart 1 0 (by decide) rfl rfl),
      (owns_made w2 _ rfl _ _).alloc _, owns_made _ _ (by simp) _ _, (rows_owns hown2 (by simp) (act_len (aa ++ bb))).off o3 (by simp), s8, ?_⟩
    exact (hof1.trans o2 (fun i hi hm => absurd hm (fun hm => by have := s5.above (w := w) 0 4 (by decide) rfl rfl i hm; omega))).trans o3 (by simp)
  have HJ := Lib.hid hj
  have hwn := ho.size
  clear hj hown1 hown2 hgrow1 hgrow2 hg1 hg2 hof1 ha hb
  generalize w0.heap.size = n0 at *
  go_loopw [9, 10, 11] (fun vl vd vi wr => ∃ k ls dn xl yl zl xv yv zv, k ≤ aa.length + bb.length ∧ vi = .int .i64 (k : Nat) ∧ JMem (aa ++ bb) w n0 (.slice a2 (aa.length + bb.length) c2) vl vd ls dn xl yl zl xv yv zv wr ∧ JoinsOk aa.length k dn xl yl zl ∧ ls = dn.map fun a => (a.enc.1.length : Int)) (fun _ _ vi _ => aa.length + bb.length - (intOf vi).toNat)
  case atStart => exact ⟨0, [], [], [], [], [], _, _, _, Nat.zero_le _, rfl, HJ.out, ⟨rfl, rfl, fun _ => rfl, by simp, by simp, by simp⟩, rfl⟩
  case round =>
    obtain ⟨k, ls, dn, xl, yl, zl, xv, yv, zv, hk, rfl, hJ, hO, hls⟩ := hrel
    clear HJ
    by_cases hlt : k < aa.length + bb.length
    · have hall : k < (aa ++ bb).length := by simpa using hlt
      obtain ⟨x, rfl, hx⟩ : ∃ x, a2 = some x ∧ CellsAt wr (x.add (k * 5)) (actCells ((aa ++ bb)[k]'hall)) := by
        rcases hJ.all with ⟨_, h0⟩ | ⟨x, c, hx, hc⟩
        · have := congrArg List.length h0
          rw [List.length_map] at this
          simp only [List.length_nil] at this
          omega
        · injection hx with hx _ _
          subst hx
          have h1 := hc k (by simpa using hlt)
          rw [List.getElem_map] at h1
          exact ⟨x, rfl, h1⟩
      have hao : ActOk ((aa ++ bb)[k]'hall) := by
        rcases List.mem_append.1 (List.getElem_mem hall) with h | h
        · exact oka _ h
        · exact okb _ h
      have c0 := hx.first _ rfl
      have c1 := hx.next 0 _ rfl
      have c2 := hx.next 1 _ rfl
      have c3 := hx.next 2 _ rfl
      have c4 := hx.next 3 _ rfl
      clear hx
      generalize (aa ++ bb)[k]'hall = act at *
      obtain ⟨kind, wd, m, m2, s⟩ := act
      by_cases hs : s.size ≤ 1024
      · have hd : decide ((1024 : Int) < (s.size : Int)) = false := decide_eq_false (by omega)
        obtain ⟨⟨en, eb⟩, hen0⟩ : ∃ q, ActV.enc ⟨kind, wd, m, m2, s⟩ = q := ⟨_, rfl⟩
        have hel : en.length ≤ 1100 := by have := enc_len ⟨kind, wd, m, m2, s⟩ hs; rw [hen0] at this; exact this
        have he0' : eb = false → en.length = 0 := by intro hb; have := enc_no ⟨kind, wd, m, m2, s⟩; rw [hen0] at this; have e : en = [] := this hb; rw [e]; rfl
        by_cases hk1 : kind = 1
        · subst hk1
          have hen : encN wd m = (en, eb) := by rw [← hen0]; unfold ActV.enc; rw [if_pos rfl]
          by_cases hka : k < aa.length
          · have hkd : decide ((aa.length : Int) ≤ (k : Int)) = false := decide_eq_false (by omega)
            cases eb
            · have he0 : en.length = 0 := he0' rfl
              go_wp2_with fail
              have hJa := hJ.alloc (.cells #[.int .i64 1, .int .i64 wd, .int .i64 m, .int .i64 m2, .string s] 44)
              have HB := Lib.hid (show Blk _ _ (actA ⟨1, wd, m, m2, s⟩) _ from blk_new wr #[.int .i64 1, .int .i64 wd, .int .i64 m, .int .i64 m2, .string s] 44)
              have hnz : wr.heap.size ∉ foot (n0 + 1 + 1) zv := fun hh => Nat.lt_irrefl _ (hJ.sep.below 3 rfl _ hh)
              have hnl0 : wr.heap.size ∉ u9.ownBlock.toList := fun hh => Nat.lt_irrefl _ (hJ.sep.below 1 rfl _ hh)
              have hnt : wr.heap.size ∉ foot n0 xv := fun hh => Nat.lt_irrefl _ (hJ.sep.below 5 rfl _ hh)
              generalize wr.alloc (.cells #[.int .i64 1, .int .i64 wd, .int .i64 m, .int .i64 m2, .string s] 44) = wa at *
              clear c0 c1 c2 c3 c4 hJ
              generalize wr.heap.size = nb at *
              refine (outLen _ _ _ _ hJa.z).mono ?_
              rintro e w' ⟨rfl, rfl⟩
              have a0 := HB.out.cell 0 (.int .i64 1) rfl
              have a1 := HB.out.cell 1 (.int .i64 wd) rfl
              have a2' := HB.out.cell 2 (.int .i64 m) rfl
              have a3 := HB.out.cell 3 (.int .i64 m2) rfl
              have a4 := HB.out.cell 4 (.string s) rfl
              go_wp2_with fail
              have hk := hJa.numZ (by have := hO.size; omega) wd m wa.heap.size rfl
              rw [hen] at hk
              refine hk.mono ?_
              clear hk a0 a1 a2' a3 a4
              rintro e w3 ⟨rfl, zv', hJ3, hoZ⟩
              have HB3 := Lib.hid (hoZ.blk HB.out hnz)
              clear HB hoZ
              have a0 := HB3.out.cell 0 (.int .i64 1) rfl
              have a1 := HB3.out.cell 1 (.int .i64 wd) rfl
              have a2' := HB3.out.cell 2 (.int .i64 m) rfl
              have a3 := HB3.out.cell 3 (.int .i64 m2) rfl
              have a4 := HB3.out.cell 4 (.string s) rfl
              go_wp2_with fail
              have hk := hJ3.numX (by have := hO.size; have := congrArg List.length hO.join; simp at this; omega) wd m w3.heap.size rfl
              rw [hen] at hk
              refine hk.mono ?_
              clear hk a0 a1 a2' a3 a4
              rintro e w4 ⟨rfl, tv', hJ4, hoT⟩
              have HB4 := Lib.hid (hoT.blk HB3.out hnt)
              clear HB3 hoT hJ3 hJa
              have a0 := HB4.out.cell 0 (.int .i64 1) rfl
              have a1 := HB4.out.cell 1 (.int .i64 wd) rfl
              have a2' := HB4.out.cell 2 (.int .i64 m) rfl
              have a3 := HB4.out.cell 3 (.int .i64 m2) rfl
              have a4 := HB4.out.cell 4 (.string s) rfl
              have hln := outLen _ _ _ _ hJ4.z
              rw [List.length_append, he0, Nat.add_zero] at hln
              go_wp2_with (go_at_call 27; refine hln.mono ?_; rintro e w' ⟨rfl, rfl⟩)
              go_roundw
              case rel =>
                refine ⟨k + 1, ls, dn, _, _, _, _, _, _, by omega, by go_num, hJ4, ?_, hls⟩
                rw [List.eq_nil_of_length_eq_zero he0, List.append_nil, List.append_nil]
                exact ⟨hO.join, hO.text, fun hq => hO.first (by omega), hO.ok, by have := hO.len; omega, by have := hO.size; omega⟩
              case measure => simp [intOf] <;> omega
            · go_wp2_with fail
              have hJa := hJ.alloc (.cells #[.int .i64 1, .int .i64 wd, .int .i64 m, .int .i64 m2, .string s] 44)
              have HB := Lib.hid (show Blk _ _ (actA ⟨1, wd, m, m2, s⟩) _ from blk_new wr #[.int .i64 1, .int .i64 wd, .int .i64 m, .int .i64 m2, .string s] 44)
              have hnz : wr.heap.size ∉ foot (n0 + 1 + 1) zv := fun hh => Nat.lt_irrefl _ (hJ.sep.below 3 rfl _ hh)
              have hnl0 : wr.heap.size ∉ u9.ownBlock.toList := fun hh => Nat.lt_irrefl _ (hJ.sep.below 1 rfl _ hh)
              have hnt : wr.heap.size ∉ foot n0 xv := fun hh => Nat.lt_irrefl _ (hJ.sep.below 5 rfl _ hh)
              generalize wr.alloc (.cells #[.int .i64 1, .int .i64 wd, .int .i64 m, .int .i64 m2, .string s] 44) = wa at *
              clear c0 c1 c2 c3 c4 hJ
              generalize wr.heap.size = nb at *
              refine (outLen _ _ _ _ hJa.z).mono ?_
              rintro e w' ⟨rfl, rfl⟩
              have a0 := HB.out.cell 0 (.int .i64 1) rfl
              have a1 := HB.out.cell 1 (.int .i64 wd) rfl
              have a2' := HB.out.cell 2 (.int .i64 m) rfl
              have a3 := HB.out.cell 3 (.int .i64 m2) rfl
              have a4 := HB.out.cell 4 (.string s) rfl
              go_wp2_with fail
              have hk := hJa.numZ (by have := hO.size; omega) wd m wa.heap.size rfl
              rw [hen] at hk
              refine hk.mono ?_
              clear hk a0 a1 a2' a3 a4
              rintro e w3 ⟨rfl, zv', hJ3, hoZ⟩
              have HB3 := Lib.hid (hoZ.blk HB.out hnz)
              clear HB hoZ
              have a0 := HB3.out.cell 0 (.int .i64 1) rfl
              have a1 := HB3.out.cell 1 (.int .i64 wd) rfl
              have a2' := HB3.out.cell 2 (.int .i64 m) rfl
              have a3 := HB3.out.cell 3 (.int .i64 m2) rfl
              have a4 := HB3.out.cell 4 (.string s) rfl
              go_wp2_with fail
              have hk := hJ3.numX (by have := hO.size; have := congrArg List.length hO.join; simp at this; omega) wd m w3.heap.size rfl
              rw [hen] at hk
              refine hk.mono ?_
              clear hk a0 a1 a2' a3 a4
              rintro e w4 ⟨rfl, tv', hJ4, hoT⟩
              have HB4 := Lib.hid (hoT.blk HB3.out hnt)
              clear HB3 hoT hJ3 hJa
              have a0 := HB4.out.cell 0 (.int .i64 1) rfl
              have a1 := HB4.out.cell 1 (.int .i64 wd) rfl
              have a2' := HB4.out.cell 2 (.int .i64 m) rfl
              have a3 := HB4.out.cell 3 (.int .i64 m2) rfl
              have a4 := HB4.out.cell 4 (.string s) rfl
              have hln := outLen _ _ _ _ hJ4.z
              rw [List.length_append] at hln
              have hlsl : ls.length = dn.length := by rw [hls, List.length_map]
              have hdl := hO.len
              have hnl : nb ∉ u9.ownBlock.toList := hnl0
              have HEN := Lib.hid hen0
              clear hen0
              go_wp2_with (first
                | (go_at_call 27; refine hln.mono ?_; rintro e w' ⟨rfl, rfl⟩)
                | (at_builtin; go_loud (refine hJ4.appLens (by omega) _ w4.heap.size rfl rfl (.tmp 107) (.tmp 112) rfl rfl rfl ?_; intro a5 c5 w5 hJ5 hof5; have HB5 := Lib.hid (hof5.blk HB4.out hnl); clear a0 a1 a2' a3 a4; have a0 := HB5.out.cell 0 (.int .i64 1) rfl; have a1 := HB5.out.cell 1 (.int .i64 wd) rfl; have a2' := HB5.out.cell 2 (.int .i64 m) rfl; have a3 := HB5.out.cell 3 (.int .i64 m2) rfl; have a4 := HB5.out.cell 4 (.string s) rfl))
                | (at_builtin; go_loud (refine hJ5.appDone (by omega) ⟨1, wd, m, m2, s⟩ w5.heap.size rfl rfl (.tmp 114) (.tmp 116) rfl rfl rfl ?_; intro a6 c6 w6 hJ6)))
              go_roundw
              case rel =>
                rw [hlsl, show (zl.length : Int) + (en.length : Int) - (zl.length : Int) = (en.length : Int) by omega] at hJ6
                exact ⟨k + 1, _, _, _, _, _, _, _, _, by omega, by go_num, hJ6, hO.stepX hka ⟨1, wd, m, m2, s⟩ en hao hs HEN.out hel, by rw [hls, List.map_append]; simp only [List.map_cons, List.map_nil, HEN.out]⟩
              case measure => simp [intOf] <;> omega
          · have hkd : decide ((aa.length : Int) ≤ (k : Int)) = true := decide_eq_true (by omega)
            cases eb
            · have he0 : en.length = 0 := he0' rfl
              go_wp2_with fail
              have hJa := hJ.alloc (.cells #[.int .i64 1, .int .i64 wd, .int .i64 m, .int .i64 m2, .string s] 44)
              have HB := Lib.hid (show Blk _ _ (actA ⟨1, wd, m, m2, s⟩) _ from blk_new wr #[.int .i64 1, .int .i64 wd, .int .i64 m, .int .i64 m2, .string s] 44)
              have hnz : wr.heap.size ∉ foot (n0 + 1 + 1) zv := fun hh => Nat.lt_irrefl _ (hJ.sep.below 3 rfl _ hh)
              have hnl0 : wr.heap.size ∉ u9.ownBlock.toList := fun hh => Nat.lt_irrefl _ (hJ.sep.below 1 rfl _ hh)
              have hnt : wr.heap.size ∉ foot (n0 + 1) yv := fun hh => Nat.lt_irrefl _ (hJ.sep.below 4 rfl _ hh)
              generalize wr.alloc (.cells #[.int .i64 1, .int .i64 wd, .int .i64 m, .int .i64 m2, .string s] 44) = wa at *
              clear c0 c1 c2 c3 c4 hJ
              generalize wr.heap.size = nb at *
              refine (outLen _ _ _ _ hJa.z).mono ?_
              rintro e w' ⟨rfl, rfl⟩
              have a0 := HB.out.cell 0 (.int .i64 1) rfl
              have a1 := HB.out.cell 1 (.int .i64 wd) rfl
              have a2' := HB.out.cell 2 (.int .i64 m) rfl
              have a3 := HB.out.cell 3 (.int .i64 m2) rfl
              have a4 := HB.out.cell 4 (.string s) rfl
              go_wp2_with fail
              have hk := hJa.numZ (by have := hO.size; omega) wd m wa.heap.size rfl
              rw [hen] at hk
              refine hk.mono ?_
              clear hk a0 a1 a2' a3 a4
              rintro e w3 ⟨rfl, zv', hJ3, hoZ⟩
              have HB3 := Lib.hid (hoZ.blk HB.out hnz)
              clear HB hoZ
              have a0 := HB3.out.cell 0 (.int .i64 1) rfl
              have a1 := HB3.out.cell 1 (.int .i64 wd) rfl
              have a2' := HB3.out.cell 2 (.int .i64 m) rfl
              have a3 := HB3.out.cell 3 (.int .i64 m2) rfl
              have a4 := HB3.out.cell 4 (.string s) rfl
              go_wp2_with fail
              have hk := hJ3.numY (by have := hO.size; have := congrArg List.length hO.join; simp at this; omega) wd m w3.heap.size rfl
              rw [hen] at hk
              refine hk.mono ?_
              clear hk a0 a1 a2' a3 a4
              rintro e w4 ⟨rfl, tv', hJ4, hoT⟩
              have HB4 := Lib.hid (hoT.blk HB3.out hnt)
              clear HB3 hoT hJ3 hJa
              have a0 := HB4.out.cell 0 (.int .i64 1) rfl
              have a1 := HB4.out.cell 1 (.int .i64 wd) rfl
              have a2' := HB4.out.cell 2 (.int .i64 m) rfl
              have a3 := HB4.out.cell 3 (.int .i64 m2) rfl
              have a4 := HB4.out.cell 4 (.string s) rfl
              have hln := outLen _ _ _ _ hJ4.z
              rw [List.length_append, he0, Nat.add_zero] at hln
              go_wp2_with (go_at_call 27; refine hln.mono ?_; rintro e w' ⟨rfl, rfl⟩)
              go_roundw
              case rel =>
                refine ⟨k + 1, ls, dn, _, _, _, _, _, _, by omega, by go_num, hJ4, ?_, hls⟩
                rw [List.eq_nil_of_length_eq_zero he0, List.append_nil, List.append_nil]
                exact ⟨hO.join, hO.text, fun hq => hO.first (by omega), hO.ok, by have := hO.len; omega, by have := hO.size; omega⟩
              case measure => simp [intOf] <;> omega
            · go_wp2_with fail
              have hJa := hJ.alloc (.cells #[.int .i64 1, .int .i64 wd, .int .i64 m, .int .i64 m2, .string s] 44)
              have HB := Lib.hid (show Blk _ _ (actA ⟨1, wd, m, m2, s⟩) _ from blk_new wr #[.int .i64 1, .int .i64 wd, .int .i64 m, .int .i64 m2, .string s] 44)
              have hnz : wr.heap.size ∉ foot (n0 + 1 + 1) zv := fun hh => Nat.lt_irrefl _ (hJ.sep.below 3 rfl _ hh)
              have hnl0 : wr.heap.size ∉ u9.ownBlock.toList := fun hh => Nat.lt_irrefl _ (hJ.sep.below 1 rfl _ hh)
              have hnt : wr.heap.size ∉ foot (n0 + 1) yv := fun hh => Nat.lt_irrefl _ (hJ.sep.below 4 rfl _ hh)
              generalize wr.alloc (.cells #[.int .i64 1, .int .i64 wd, .int .i64 m, .int .i64 m2, .string s] 44) = wa at *
              clear c0 c1 c2 c3 c4 hJ
              generalize wr.heap.size = nb at *
              refine (outLen _ _ _ _ hJa.z).mono ?_
              rintro e w' ⟨rfl, rfl⟩
              have a0 := HB.out.cell 0 (.int .i64 1) rfl
              have a1 := HB.out.cell 1 (.int .i64 wd) rfl
              have a2' := HB.out.cell 2 (.int .i64 m) rfl
              have a3 := HB.out.cell 3 (.int .i64 m2) rfl
              have a4 := HB.out.cell 4 (.string s) rfl
              go_wp2_with fail
              have hk := hJa.numZ (by have := hO.size; omega) wd m wa.heap.size rfl
              rw [hen] at hk
              refine hk.mono ?_
              clear hk a0 a1 a2' a3 a4
              rintro e w3 ⟨rfl, zv', hJ3, hoZ⟩
              have HB3 := Lib.hid (hoZ.blk HB.out hnz)
              clear HB hoZ
              have a0 := HB3.out.cell 0 (.int .i64 1) rfl
              have a1 := HB3.out.cell 1 (.int .i64 wd) rfl
              have a2' := HB3.out.cell 2 (.int .i64 m) rfl
              have a3 := HB3.out.cell 3 (.int .i64 m2) rfl
              have a4 := HB3.out.cell 4 (.string s) rfl
              go_wp2_with fail
              have hk := hJ3.numY (by have := hO.size; have := congrArg List.length hO.join; simp at this; omega) wd m w3.heap.size rfl
              rw [hen] at hk
              refine hk.mono ?_
              clear hk a0 a1 a2' a3 a4
              rintro e w4 ⟨rfl, tv', hJ4, hoT⟩
              have HB4 := Lib.hid (hoT.blk HB3.out hnt)
              clear HB3 hoT hJ3 hJa
              have a0 := HB4.out.cell 0 (.int .i64 1) rfl
              have a1 := HB4.out.cell 1 (.int .i64 wd) rfl
              have a2' := HB4.out.cell 2 (.int .i64 m) rfl
              have a3 := HB4.out.cell 3 (.int .i64 m2) rfl
              have a4 := HB4.out.cell 4 (.string s) rfl
              have hln := outLen _ _ _ _ hJ4.z
              rw [List.length_append] at hln
              have hlsl : ls.length = dn.length := by rw [hls, List.length_map]
              have hdl := hO.len
              have hnl : nb ∉ u9.ownBlock.toList := hnl0
              have HEN := Lib.hid hen0
              clear hen0
              go_wp2_with (first
                | (go_at_call 27; refine hln.mono ?_; rintro e w' ⟨rfl, rfl⟩)
                | (at_builtin; go_loud (refine hJ4.appLens (by omega) _ w4.heap.size rfl rfl (.tmp 107) (.tmp 112) rfl rfl rfl ?_; intro a5 c5 w5 hJ5 hof5; have HB5 := Lib.hid (hof5.blk HB4.out hnl); clear a0 a1 a2' a3 a4; have a0 := HB5.out.cell 0 (.int .i64 1) rfl; have a1 := HB5.out.cell 1 (.int .i64 wd) rfl; have a2' := HB5.out.cell 2 (.int .i64 m) rfl; have a3 := HB5.out.cell 3 (.int .i64 m2) rfl; have a4 := HB5.out.cell 4 (.string s) rfl))
                | (at_builtin; go_loud (refine hJ5.appDone (by omega) ⟨1, wd, m, m2, s⟩ w5.heap.size rfl rfl (.tmp 114) (.tmp 116) rfl rfl rfl ?_; intro a6 c6 w6 hJ6)))
              go_roundw
              case rel =>
                rw [hlsl, show (zl.length : Int) + (en.length : Int) - (zl.length : Int) = (en.length : Int) by omega] at hJ6
                exact ⟨k + 1, _, _, _, _, _, _, _, _, by omega, by go_num, hJ6, hO.stepY (by omega) ⟨1, wd, m, m2, s⟩ en hao hs HEN.out hel, by rw [hls, List.map_append]; simp only [List.map_cons, List.map_nil, HEN.out]⟩
              case measure => simp [intOf] <;> omega
        · have hkb : (kind == 1) = false := by simpa using hk1
          have hen : encT s = (en, eb) := by rw [← hen0]; unfold ActV.enc; rw [if_neg hk1]
          by_cases hka : k < aa.length
          · have hkd : decide ((aa.length : Int) ≤ (k : Int)) = false := decide_eq_false (by omega)
            cases eb
            · have he0 : en.length = 0 := he0' rfl
              go_wp2_with fail
              have hJa := hJ.alloc (.cells #[.int .i64 kind, .int .i64 wd, .int .i64 m, .int .i64 m2, .string s] 44)
              have HB := Lib.hid (show Blk _ _ (actA ⟨kind, wd, m, m2, s⟩) _ from blk_new wr #[.int .i64 kind, .int .i64 wd, .int .i64 m, .int .i64 m2, .string s] 44)
              have hnz : wr.heap.size ∉ foot (n0 + 1 + 1) zv := fun hh => Nat.lt_irrefl _ (hJ.sep.below 3 rfl _ hh)
              have hnl0 : wr.heap.size ∉ u9.ownBlock.toList := fun hh => Nat.lt_irrefl _ (hJ.sep.below 1 rfl _ hh)
              have hnt : wr.heap.size ∉ foot n0 xv := fun hh => Nat.lt_irrefl _ (hJ.sep.below 5 rfl _ hh)
              generalize wr.alloc (.cells #[.int .i64 kind, .int .i64 wd, .int .i64 m, .int .i64 m2, .string s] 44) = wa at *
              clear c0 c1 c2 c3 c4 hJ
              generalize wr.heap.size = nb at *
              refine (outLen _ _ _ _ hJa.z).mono ?_
              rintro e w' ⟨rfl, rfl⟩
              have a0 := HB.out.cell 0 (.int .i64 kind) rfl
              have a1 := HB.out.cell 1 (.int .i64 wd) rfl
              have a2' := HB.out.cell 2 (.int .i64 m) rfl
              have a3 := HB.out.cell 3 (.int .i64 m2) rfl
              have a4 := HB.out.cell 4 (.string s) rfl
              go_wp2_with fail
              have hk := hJa.textZ (by have := hO.size; omega) s
              rw [hen] at hk
              refine hk.mono ?_
              clear hk a0 a1 a2' a3 a4
              rintro e w3 ⟨rfl, zv', hJ3, hoZ⟩
              have HB3 := Lib.hid (hoZ.blk HB.out hnz)
              clear HB hoZ
              have a0 := HB3.out.cell 0 (.int .i64 kind) rfl
              have a1 := HB3.out.cell 1 (.int .i64 wd) rfl
              have a2' := HB3.out.cell 2 (.int .i64 m) rfl
              have a3 := HB3.out.cell 3 (.int .i64 m2) rfl
              have a4 := HB3.out.cell 4 (.string s) rfl
              go_wp2_with fail
              have hk := hJ3.textX (by have := hO.size; have := congrArg List.length hO.join; simp at this; omega) s
              rw [hen] at hk
              refine hk.mono ?_
              clear hk a0 a1 a2' a3 a4
              rintro e w4 ⟨rfl, tv', hJ4, hoT⟩
              have HB4 := Lib.hid (hoT.blk HB3.out hnt)
              clear HB3 hoT hJ3 hJa
              have a0 := HB4.out.cell 0 (.int .i64 kind) rfl
              have a1 := HB4.out.cell 1 (.int .i64 wd) rfl
              have a2' := HB4.out.cell 2 (.int .i64 m) rfl
              have a3 := HB4.out.cell 3 (.int .i64 m2) rfl
              have a4 := HB4.out.cell 4 (.string s) rfl
              have hln := outLen _ _ _ _ hJ4.z
              rw [List.length_append, he0, Nat.add_zero] at hln
              go_wp2_with (go_at_call 27; refine hln.mono ?_; rintro e w' ⟨rfl, rfl⟩)
              go_roundw
              case rel =>
                refine ⟨k + 1, ls, dn, _, _, _, _, _, _, by omega, by go_num, hJ4, ?_, hls⟩
                rw [List.eq_nil_of_length_eq_zero he0, List.append_nil, List.append_nil]
                exact ⟨hO.join, hO.text, fun hq => hO.first (by omega), hO.ok, by have := hO.len; omega, by have := hO.size; omega⟩
              case measure => simp [intOf] <;> omega
            · go_wp2_with fail
              have hJa := hJ.alloc (.cells #[.int .i64 kind, .int .i64 wd, .int .i64 m, .int .i64 m2, .string s] 44)
              have HB := Lib.hid (show Blk _ _ (actA ⟨kind, wd, m, m2, s⟩) _ from blk_new wr #[.int .i64 kind, .int .i64 wd, .int .i64 m, .int .i64 m2, .string s] 44)
              have hnz : wr.heap.size ∉ foot (n0 + 1 + 1) zv := fun hh => Nat.lt_irrefl _ (hJ.sep.below 3 rfl _ hh)
              have hnl0 : wr.heap.size ∉ u9.ownBlock.toList := fun hh => Nat.lt_irrefl _ (hJ.sep.below 1 rfl _ hh)
              have hnt : wr.heap.size ∉ foot n0 xv := fun hh => Nat.lt_irrefl _ (hJ.sep.below 5 rfl _ hh)
              generalize wr.alloc (.cells #[.int .i64 kind, .int .i64 wd, .int .i64 m, .int .i64 m2, .string s] 44) = wa at *
              clear c0 c1 c2 c3 c4 hJ
              generalize wr.heap.size = nb at *
              refine (outLen _ _ _ _ hJa.z).mono ?_
              rintro e w' ⟨rfl, rfl⟩
              have a0 := HB.out.cell 0 (.int .i64 kind) rfl
              have a1 := HB.out.cell 1 (.int .i64 wd) rfl
              have a2' := HB.out.cell 2 (.int .i64 m) rfl
              have a3 := HB.out.cell 3 (.int .i64 m2) rfl
              have a4 := HB.out.cell 4 (.string s) rfl
              go_wp2_with fail
              have hk := hJa.textZ (by have := hO.size; omega) s
              rw [hen] at hk
              refine hk.mono ?_
              clear hk a0 a1 a2' a3 a4
              rintro e w3 ⟨rfl, zv', hJ3, hoZ⟩
              have HB3 := Lib.hid (hoZ.blk HB.out hnz)
              clear HB hoZ
              have a0 := HB3.out.cell 0 (.int .i64 kind) rfl
              have a1 := HB3.out.cell 1 (.int .i64 wd) rfl
              have a2' := HB3.out.cell 2 (.int .i64 m) rfl
              have a3 := HB3.out.cell 3 (.int .i64 m2) rfl
              have a4 := HB3.out.cell 4 (.string s) rfl
              go_wp2_with fail
              have hk := hJ3.textX (by have := hO.size; have := congrArg List.length hO.join; simp at this; omega) s
              rw [hen] at hk
              refine hk.mono ?_
              clear hk a0 a1 a2' a3 a4
              rintro e w4 ⟨rfl, tv', hJ4, hoT⟩
              have HB4 := Lib.hid (hoT.blk HB3.out hnt)
              clear HB3 hoT hJ3 hJa
              have a0 := HB4.out.cell 0 (.int .i64 kind) rfl
              have a1 := HB4.out.cell 1 (.int .i64 wd) rfl
              have a2' := HB4.out.cell 2 (.int .i64 m) rfl
              have a3 := HB4.out.cell 3 (.int .i64 m2) rfl
              have a4 := HB4.out.cell 4 (.string s) rfl
              have hln := outLen _ _ _ _ hJ4.z
              rw [List.length_append] at hln
              have hlsl : ls.length = dn.length := by rw [hls, List.length_map]
              have hdl := hO.len
              have hnl : nb ∉ u9.ownBlock.toList := hnl0
              have HEN := Lib.hid hen0
              clear hen0
              go_wp2_with (first
                | (go_at_call 27; refine hln.mono ?_; rintro e w' ⟨rfl, rfl⟩)
                | (at_builtin; go_loud (refine hJ4.appLens (by omega) _ w4.heap.size rfl rfl (.tmp 107) (.tmp 112) rfl rfl rfl ?_; intro a5 c5 w5 hJ5 hof5; have HB5 := Lib.hid (hof5.blk HB4.out hnl); clear a0 a1 a2' a3 a4; have a0 := HB5.out.cell 0 (.int .i64 kind) rfl; have a1 := HB5.out.cell 1 (.int .i64 wd) rfl; have a2' := HB5.out.cell 2 (.int .i64 m) rfl; have a3 := HB5.out.cell 3 (.int .i64 m2) rfl; have a4 := HB5.out.cell 4 (.string s) rfl))
                | (at_builtin; go_loud (refine hJ5.appDone (by omega) ⟨kind, wd, m, m2, s⟩ w5.heap.size rfl rfl (.tmp 114) (.tmp 116) rfl rfl rfl ?_; intro a6 c6 w6 hJ6)))
              go_roundw
              case rel =>
                rw [hlsl, show (zl.length : Int) + (en.length : Int) - (zl.length : Int) = (en.length : Int) by omega] at hJ6
                exact ⟨k + 1, _, _, _, _, _, _, _, _, by omega, by go_num, hJ6, hO.stepX hka ⟨kind, wd, m, m2, s⟩ en hao hs HEN.out hel, by rw [hls, List.map_append]; simp only [List.map_cons, List.map_nil, HEN.out]⟩
              case measure => simp [intOf] <;> omega
          · have hkd : decide ((aa.length : Int) ≤ (k : Int)) = true := decide_eq_true (by omega)
            cases eb
            · have he0 : en.length = 0 := he0' rfl
              go_wp2_with fail
              have hJa := hJ.alloc (.cells #[.int .i64 kind, .int .i64 wd, .int .i64 m, .int .i64 m2, .string s] 44)
              have HB := Lib.hid (show Blk _ _ (actA ⟨kind, wd, m, m2, s⟩) _ from blk_new wr #[.int .i64 kind, .int .i64 wd, .int .i64 m, .int .i64 m2, .string s] 44)
              have hnz : wr.heap.size ∉ foot (n0 + 1 + 1) zv := fun hh => Nat.lt_irrefl _ (hJ.sep.below 3 rfl _ hh)
              have hnl0 : wr.heap.size ∉ u9.ownBlock.toList := fun hh => Nat.lt_irrefl _ (hJ.sep.below 1 rfl _ hh)
              have hnt : wr.heap.size ∉ foot (n0 + 1) yv := fun hh => Nat.lt_irrefl _ (hJ.sep.below 4 rfl _ hh)
              generalize wr.alloc (.cells #[.int .i64 kind, .int .i64 wd, .int .i64 m, .int .i64 m2, .string s] 44) = wa at *
              clear c0 c1 c2 c3 c4 hJ
              generalize wr.heap.size = nb at *
              refine (outLen _ _ _ _ hJa.z).mono ?_
              rintro e w' ⟨rfl, rfl⟩
              have a0 := HB.out.cell 0 (.int .i64 kind) rfl
              have a1 := HB.out.cell 1 (.int .i64 wd) rfl
              have a2' := HB.out.cell 2 (.int .i64 m) rfl
              have a3 := HB.out.cell 3 (.int .i64 m2) rfl
              have a4 := HB.out.cell 4 (.string s) rfl
              go_wp2_with fail
              have hk := hJa.textZ (by have := hO.size; omega) s
              rw [hen] at hk
              refine hk.mono ?_
              clear hk a0 a1 a2' a3 a4
              rintro e w3 ⟨rfl, zv', hJ3, hoZ⟩
              have HB3 := Lib.hid (hoZ.blk HB.out hnz)
              clear HB hoZ
              have a0 := HB3.out.cell 0 (.int .i64 kind) rfl
              have a1 := HB3.out.cell 1 (.int .i64 wd) rfl
              have a2' := HB3.out.cell 2 (.int .i64 m) rfl
              have a3 := HB3.out.cell 3 (.int .i64 m2) rfl
              have a4 := HB3.out.cell 4 (.string s) rfl
              go_wp2_with fail
              have hk := hJ3.textY (by have := hO.size; have := congrArg List.length hO.join; simp at this; omega) s
              rw [hen] at hk
              refine hk.mono ?_
              clear hk a0 a1 a2' a3 a4
              rintro e w4 ⟨rfl, tv', hJ4, hoT⟩
              have HB4 := Lib.hid (hoT.blk HB3.out hnt)
              clear HB3 hoT hJ3 hJa
              have a0 := HB4.out.cell 0 (.int .i64 kind) rfl
              have a1 := HB4.out.cell 1 (.int .i64 wd) rfl
              have a2' := HB4.out.cell 2 (.int .i64 m) rfl
              have a3 := HB4.out.cell 3 (.int .i64 m2) rfl
              have a4 := HB4.out.cell 4 (.string s) rfl
              have hln := outLen _ _ _ _ hJ4.z
              rw [List.length_append, he0, Nat.add_zero] at hln
              go_wp2_with (go_at_call 27; refine hln.mono ?_; rintro e w' ⟨rfl, rfl⟩)
              go_roundw
              case rel =>
                refine ⟨k + 1, ls, dn, _, _, _, _, _, _, by omega, by go_num, hJ4, ?_, hls⟩
                rw [List.eq_nil_of_length_eq_zero he0, List.append_nil, List.append_nil]
                exact ⟨hO.join, hO.text, fun hq => hO.first (by omega), hO.ok, by have := hO.len; omega, by have := hO.size; omega⟩
              case measure => simp [intOf] <;> omega
            · go_wp2_with fail
              have hJa := hJ.alloc (.cells #[.int .i64 kind, .int .i64 wd, .int .i64 m, .int .i64 m2, .string s] 44)
              have HB := Lib.hid (show Blk _ _ (actA ⟨kind, wd, m, m2, s⟩) _ from blk_new wr #[.int .i64 kind, .int .i64 wd, .int .i64 m, .int .i64 m2, .string s] 44)
              have hnz : wr.heap.size ∉ foot (n0 + 1 + 1) zv := fun hh => Nat.lt_irrefl _ (hJ.sep.below 3 rfl _ hh)
              have hnl0 : wr.heap.size ∉ u9.ownBlock.toList := fun hh => Nat.lt_irrefl _ (hJ.sep.below 1 rfl _ hh)
              have hnt : wr.heap.size ∉ foot (n0 + 1) yv := fun hh => Nat.lt_irrefl _ (hJ.sep.below 4 rfl _ hh)
              generalize wr.alloc (.cells #[.int .i64 kind, .int .i64 wd, .int .i64 m, .int .i64 m2, .string s] 44) = wa at *
              clear c0 c1 c2 c3 c4 hJ
              generalize wr.heap.size = nb at *
              refine (outLen _ _ _ _ hJa.z).mono ?_
              rintro e w' ⟨rfl, rfl⟩
              have a0 := HB.out.cell 0 (.int .i64 kind) rfl
              have a1 := HB.out.cell 1 (.int .i64 wd) rfl
              have a2' := HB.out.cell 2 (.int .i64 m) rfl
              have a3 := HB.out.cell 3 (.int .i64 m2) rfl
              have a4 := HB.out.cell 4 (.string s) rfl
              go_wp2_with fail
              have hk := hJa.textZ (by have := hO.size; omega) s
              rw [hen] at hk
              refine hk.mono ?_
              clear hk a0 a1 a2' a3 a4
              rintro e w3 ⟨rfl, zv', hJ3, hoZ⟩
              have HB3 := Lib.hid (hoZ.blk HB.out hnz)
              clear HB hoZ
              have a0 := HB3.out.cell 0 (.int .i64 kind) rfl
              have a1 := HB3.out.cell 1 (.int .i64 wd) rfl
              have a2' := HB3.out.cell 2 (.int .i64 m) rfl
              have a3 := HB3.out.cell 3 (.int .i64 m2) rfl
              have a4 := HB3.out.cell 4 (.string s) rfl
              go_wp2_with fail
              have hk := hJ3.textY (by have := hO.size; have := congrArg List.length hO.join; simp at this; omega) s
              rw [hen] at hk
              refine hk.mono ?_
              clear hk a0 a1 a2' a3 a4
              rintro e w4 ⟨rfl, tv', hJ4, hoT⟩
              have HB4 := Lib.hid (hoT.blk HB3.out hnt)
              clear HB3 hoT hJ3 hJa
              have a0 := HB4.out.cell 0 (.int .i64 kind) rfl
              have a1 := HB4.out.cell 1 (.int .i64 wd) rfl
              have a2' := HB4.out.cell 2 (.int .i64 m) rfl
              have a3 := HB4.out.cell 3 (.int .i64 m2) rfl
              have a4 := HB4.out.cell 4 (.string s) rfl
              have hln := outLen _ _ _ _ hJ4.z
              rw [List.length_append] at hln
              have hlsl : ls.length = dn.length := by rw [hls, List.length_map]
              have hdl := hO.len
              have hnl : nb ∉ u9.ownBlock.toList := hnl0
              have HEN := Lib.hid hen0
              clear hen0
              go_wp2_with (first
                | (go_at_call 27; refine hln.mono ?_; rintro e w' ⟨rfl, rfl⟩)
                | (at_builtin; go_loud (refine hJ4.appLens (by omega) _ w4.heap.size rfl rfl (.tmp 107) (.tmp 112) rfl rfl rfl ?_; intro a5 c5 w5 hJ5 hof5; have HB5 := Lib.hid (hof5.blk HB4.out hnl); clear a0 a1 a2' a3 a4; have a0 := HB5.out.cell 0 (.int .i64 kind) rfl; have a1 := HB5.out.cell 1 (.int .i64 wd) rfl; have a2' := HB5.out.cell 2 (.int .i64 m) rfl; have a3 := HB5.out.cell 3 (.int .i64 m2) rfl; have a4 := HB5.out.cell 4 (.string s) rfl))
                | (at_builtin; go_loud (refine hJ5.appDone (by omega) ⟨kind, wd, m, m2, s⟩ w5.heap.size rfl rfl (.tmp 114) (.tmp 116) rfl rfl rfl ?_; intro a6 c6 w6 hJ6)))
              go_roundw
              case rel =>
                rw [hlsl, show (zl.length : Int) + (en.length : Int) - (zl.length : Int) = (en.length : Int) by omega] at hJ6
                exact ⟨k + 1, _, _, _, _, _, _, _, _, by omega, by go_num, hJ6, hO.stepY (by omega) ⟨kind, wd, m, m2, s⟩ en hao hs HEN.out hel, by rw [hls, List.map_append]; simp only [List.map_cons, List.map_nil, HEN.out]⟩
              case measure => simp [intOf] <;> omega
      · have hd : decide ((1024 : Int) < (s.size : Int)) = true := decide_eq_true (by omega)
        go_wp2
        go_ret
        exact ⟨rfl, (hJ.off.alloc _).to_below⟩
    · obtain rfl : k = aa.length + bb.length := by omega
      obtain ⟨a9, c9, rfl⟩ := own_form hJ.lens
      obtain ⟨a10, c10, rfl⟩ := own_form hJ.done
      have hsx := outString n0 xv xl _ hJ.x
      have hsy := outString (n0 + 1) yv yl _ hJ.y
      have hsz := outString (n0 + 1 + 1) zv zl _ hJ.z
      have hjoin : str zl = str xl ++ str yl := by rw [hO.join, str_append]
      have hzx : (str xl).size + (str yl).size ≤ 9223372036854775807 := by have := hO.size; have e := congrArg List.length hO.join; rw [List.length_append] at e; rw [str_size, str_size]; omega
      rw [hjoin] at hsz
      have hls2 : ls.length = dn.length := by rw [hls, List.length_map]
      go_wp2_with (first
        | (go_at_call 26; with_reducible refine hsx.mono ?_; rintro e w' ⟨rfl, rfl⟩)
        | (go_at_call 26; with_reducible refine hsy.mono ?_; rintro e w' ⟨rfl, rfl⟩)
        | (go_at_call 26; with_reducible refine hsz.mono ?_; rintro e w' ⟨rfl, rfl⟩)
        | (go_at_call 28; refine (inOf _ _).mono ?_; rintro e w3 ⟨bi, rfl, hbi, hi3, ho3⟩))
      have hD : RowsAt w3 (.slice a10 dn.length c10) 5 (dn.map actCells) := (rows_owns hJ.done (by simp) (act_len dn)).off ho3 (by simp)
      have hL : Reads w3 (.slice a9 ls.length c9) (ls.map (Value.int .i64)) := (reads_owns hJ.lens).off ho3 (by simp)
      have hbd : ∀ x, a10 = some x → x.block ≠ bi := fun x hx he => by
        have := hJ.sep.below 0 rfl x.block (by rw [hx]; simp [Value.ownBlock])
        omega
      have hbl : ∀ x, a9 = some x → x.block ≠ bi := fun x hx he => by
        have := hJ.sep.below 1 rfl x.block (by rw [hx]; simp [Value.ownBlock])
        omega
      have hof := hJ.off.trans ho3 (by simp)
      have hwb : w.heap.size ≤ bi := Nat.le_trans hJ.off.size hbi
      have hi3' : InAt w3 bi (str (encs dn)) false := by
        have e : encs dn = zl := hO.text.symm
        rw [e, hjoin]
        exact hi3
      have hen : (encs dn).length ≤ 70000 := by
        have e : encs dn = zl := hO.text.symm
        have := hO.size
        rw [e]
        omega
      have hokd := hO.ok
      have hdn : dn.length ≤ 60 := by have := hO.len; omega
      rw [hls2] at hL
      have hcell : ∀ i (h : i < dn.length), ∃ y, a9 = some y ∧ w3.cell? (y.add i) = some (.int .i64 ((dn[i].enc.1.length : Nat) : Int)) := by
        intro i h
        rcases hL with ⟨_, h0⟩ | ⟨y, c, hy, hc⟩
        · have := congrArg List.length h0
          rw [List.length_map, hls2] at this
          simp only [List.length_nil] at this
          omega
        · injection hy with hy _ _
          refine ⟨y, hy, ?_⟩
          rw [hc i (by rw [List.length_map, hls2]; exact h)]
          simp [hls]
      have HI := Lib.hid hi3'
      clear hJ hO hsx hsy hsz hjoin hzx hls hls2 hi3 hi3' hL ho3 hbi
      go_loopw [18] (fun vi wq => ∃ j : Nat, j ≤ dn.length ∧ vi = .int .i64 j ∧ InAt wq bi (str (encs (dn.drop j))) false ∧ (encs (dn.drop j)).length ≤ 70000 ∧ Off [bi] w3 wq) (fun vi _ => dn.length - (intOf vi).toNat)
      case atStart => exact ⟨0, Nat.zero_le _, rfl, HI.out, hen, Off.refl _ _⟩
      case round =>
        obtain ⟨j, hj, rfl, hi4, hl4, ho4⟩ := hrel
        by_cases hlt2 : j < dn.length
        · obtain ⟨x, rfl, hx⟩ : ∃ x, a10 = some x ∧ CellsAt wr (x.add (j * 5)) (actCells dn[j]) := by
            rcases hD with ⟨_, h0⟩ | ⟨x, c, hx, hc⟩
            · have := congrArg List.length h0
              rw [List.length_map] at this
              simp only [List.length_nil] at this
              omega
            · injection hx with hx _ _
              subst hx
              have h1 := hc j (by simpa using hlt2)
              rw [List.getElem_map] at h1
              exact ⟨x, rfl, h1.off ho4 (by rw [add_block]; simpa using hbd x rfl)⟩
          obtain ⟨y, rfl, hy⟩ := hcell j hlt2
          have hyr : wr.cell? (y.add j) = some (.int .i64 ((dn[j].enc.1.length : Nat) : Int)) := by
            rw [← hy]
            exact ho4.cell (lt_of_cell hy) (by rw [add_block]; simpa using hbl y rfl)
          have hyb := hbl y rfl
          have hact := hokd _ (List.getElem_mem hlt2)
          rw [encs_drop dn j hlt2] at hi4 hl4
          have hsm := encs_lt (dn.drop (j + 1))
          have c0 := hx.first _ rfl
          have c1 := hx.next 0 _ rfl
          clear hx hy
          generalize hrest : encs (dn.drop (j + 1)) = rest at *
          generalize dn[j] = act at *
          obtain ⟨kind, wd, m, m2, s⟩ := act
          obtain ⟨⟨hao, _⟩, hak, has⟩ := hact
          by_cases hk1 : kind = 1
          · subst hk1
            have hen1 : ActV.enc ⟨1, wd, m, m2, s⟩ = encN wd m := by unfold ActV.enc; rw [if_pos rfl]
            rw [hen1] at hi4 hl4 hak hyr
            have hb := (back_num wd m rest hsm hao.2 hak).1
            have hk := inNum bi (str ((encN wd m).1 ++ rest)) false wr wd hi4
            rw [hb] at hk
            clear hb hen1
            have hlf := inLeft bi _ _ _ hi4
            rw [show inLeftV (str ((encN wd m).1 ++ rest)) false = (((encN wd m).1.length : Nat) : Int) + ((rest.length : Nat) : Int) by simp [inLeftV, str_size]] at hlf
            rw [List.length_append] at hl4
            generalize (encN wd m).1 = en at *
            have HI4 := Lib.hid hi4
            clear hi4
            go_wp2_with (first
              | (go_at_call 34; refine hlf.mono ?_; rintro e w' ⟨rfl, rfl⟩)
              | (go_at_call 29; refine hk.mono ?_; rintro e w5 ⟨rfl, hi5, ho5⟩))
            have hy5 : w5.cell? (y.add j) = some (.int .i64 ((en.length : Nat) : Int)) := by rw [← hyr]; exact ho5.cell (lt_of_cell hyr) (by rw [add_block]; simpa using hyb)
            have HI5 := Lib.hid hi5
            clear hi5 hyr hk hlf
            have hlq := Lib.hid (fun n => show Calls Try.prog 34 #[.pointer (some ⟨bi, 0, none⟩)] (w5.drewN n) fun e w' => e = .returned (.int .i64 ((rest.length : Nat) : Int)) ∧ w5.drewN n = w' by
              have h := inLeft bi _ _ (w5.drewN n) (Blk.drewN HI5.out n)
              rw [show inLeftV (str rest) false = ((rest.length : Nat) : Int) by simp [inLeftV, str_size]] at h
              exact h)
            go_quiet (first
              | (go_at_call 34; exact quiet_mine (hlq.out _))
              | (go_at_call 33; exact quiet_mine (inBad bi _ _ _ (Blk.drewN HI5.out _))))
            go_wp2
            go_roundw
            case rel => exact ⟨j + 1, by omega, by go_num, by rw [hrest]; exact HI5.out.drewN _, by rw [hrest]; omega, (ho4.trans ho5 (by simp)).drewN _⟩
            case measure => simp [intOf] <;> omega
          · have hkb : (kind == 1) = false := by simpa using hk1
            have hen1 : ActV.enc ⟨kind, wd, m, m2, s⟩ = encT s := by unfold ActV.enc; rw [if_neg hk1]
            rw [hen1] at hi4 hl4 hak hyr
            have hb := back_text s rest hsm 1024 (by have : s.size ≤ 1024 := has; omega) hak
            have hk := inText bi (str ((encT s).1 ++ rest)) false wr 1024 hi4 (by rw [str_size]; omega)
            rw [hb] at hk
            clear hb hen1
            have hlf := inLeft bi _ _ _ hi4
            rw [show inLeftV (str ((encT s).1 ++ rest)) false = (((encT s).1.length : Nat) : Int) + ((rest.length : Nat) : Int) by simp [inLeftV, str_size]] at hlf
            rw [List.length_append] at hl4
            generalize (encT s).1 = en at *
            have HI4 := Lib.hid hi4
            clear hi4
            go_wp2_with (first
              | (go_at_call 34; refine hlf.mono ?_; rintro e w' ⟨rfl, rfl⟩)
              | (go_at_call 31; refine hk.mono ?_; rintro e w5 ⟨rfl, hi5, ho5⟩))
            have hy5 : w5.cell? (y.add j) = some (.int .i64 ((en.length : Nat) : Int)) := by rw [← hyr]; exact ho5.cell (lt_of_cell hyr) (by rw [add_block]; simpa using hyb)
            have HI5 := Lib.hid hi5
            clear hi5 hyr hk hlf
            have hlq := Lib.hid (fun n => show Calls Try.prog 34 #[.pointer (some ⟨bi, 0, none⟩)] (w5.drewN n) fun e w' => e = .returned (.int .i64 ((rest.length : Nat) : Int)) ∧ w5.drewN n = w' by
              have h := inLeft bi _ _ (w5.drewN n) (Blk.drewN HI5.out n)
              rw [show inLeftV (str rest) false = ((rest.length : Nat) : Int) by simp [inLeftV, str_size]] at h
              exact h)
            go_quiet (first
              | (go_at_call 34; exact quiet_mine (hlq.out _))
              | (go_at_call 33; exact quiet_mine (inBad bi _ _ _ (Blk.drewN HI5.out _))))
            go_wp2
            go_roundw
            case rel => exact ⟨j + 1, by omega, by go_num, by rw [hrest]; exact HI5.out.drewN _, by rw [hrest]; omega, (ho4.trans ho5 (by simp)).drewN _⟩
            case measure => simp [intOf] <;> omega
        · obtain rfl : j = dn.length := by omega
          rw [List.drop_length] at hi4
          have he := inEnd bi _ false _ hi4
          rw [show encs [] = [] from rfl, end_nil] at he
          go_wp2_with (go_at_call 36; refine he.mono ?_; rintro e w' ⟨rfl, rfl⟩)
          go_ret
          exact ⟨rfl, (hof.fresh ho4 (by simpa using hwb)).to_below⟩
set_option maxRecDepth 20000 in
theorem packJoins (va : Value) (aa : List ActV) (vb : Value) (bb : List ActV) (w : World) (ha : RowsAt w va 5 (aa.map actCells)) (oka : ∀ a ∈ aa, ActOk a) (hb : RowsAt w vb 5 (bb.map actCells)) (okb : ∀ a ∈ bb, ActOk a) :
    Calls Try.prog 10 #[va, vb] w fun e w' => e = .returned (.bool true) ∧ Below w.heap.size w w' := by
  by_cases la : aa.length ≤ 30
  · by_cases lb : bb.length ≤ 30
    · exact packJoins_main va vb aa bb w ha hb oka okb la lb
    · obtain ⟨xa, ca, rfl⟩ := rows_form ha
      obtain ⟨xb, cb, rfl⟩ := rows_form hb
      rw [List.length_map, List.length_map]
      have da : decide ((30 : Int) < (aa.length : Int)) = false := decide_eq_false (by omega)
      have db : decide ((30 : Int) < (bb.length : Int)) = true := decide_eq_true (by omega)
      clear ha hb
      go_enter Try.func10, Try.ntmps10
      go_wp2_with (go_at_call 21; refine (awake _).mono ?_; rintro e w0 ⟨rfl, ho⟩)
      go_ret
      exact ⟨rfl, ho.to_below⟩
  · obtain ⟨xa, ca, rfl⟩ := rows_form ha
    rw [List.length_map]
    have da : decide ((30 : Int) < (aa.length : Int)) = true := decide_eq_true (by omega)
    clear ha hb
    go_enter Try.func10, Try.ntmps10
    go_wp2_with (go_at_call 21; refine (awake _).mono ?_; rintro e w0 ⟨rfl, ho⟩)
    go_ret
    exact ⟨rfl, ho.to_below⟩
end Go.Proofs.Ytpofjeenednjcaa.Pk
