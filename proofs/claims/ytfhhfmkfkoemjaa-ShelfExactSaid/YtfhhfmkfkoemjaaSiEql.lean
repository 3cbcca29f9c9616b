/- Shelves, at one instance: whether two are the same. -/
import Derived.Test.YtfhhfmkfkoemjaaProg
import Derived.Below
import Derived.WalkKit
import Derived.KernelRfl
import Derived.RowKit3
import Derived.Deep.LoopGhost
import Derived.Deep.QuietTactic
import Derived.BigQuiet
import Derived.WideLaws
import Derived.Deep.DeepCutAuto
import Derived.Deep.CutBlock
import Derived.Lib.Hide
import Derived.Laws.BitsLemmas
import Derived.Laws.Bits64
import Derived.Laws.BitsAllLaws
import Derived.IntWalk
import Derived.Outline
import Derived.WalkSpells
import Derived.Test.YtfhhfmkfkoemjaaMem
import Derived.Test.YtfhhfmkfkoemjaaSiWit
import Derived.Test.YtfhhfmkfkoemjaaHpW
namespace Go.Proofs.Ytfhhfmkfkoemjaa.Si6
set_option linter.unusedVariables false
set_option linter.unusedSimpArgs false
open Go.RowKit Go.Proofs.Ytfhhfmkfkoemjaa.Mem

set_option maxRecDepth 20000
set_option maxHeartbeats 16000000

theorem keyEq (x y : KeyV) : (x = y) ↔ x.toList = y.toList := ⟨fun h => by rw [h], fun h => by rw [ByteArray.toList_eq, ByteArray.toList_eq] at h; exact ByteArray.ext (Array.toList_inj.1 h)⟩
theorem run_eqlP (p q : PairV) (w : World) : (Op.equalIn 10000 62 (.agg #[.string p.1, .int .i64 p.2]) (.agg #[.string q.1, .int .i64 q.2])).run Try.prog w = .ok (decide (p = q)) w := by
  have u0 := Try.underlying9
  have u1 := Try.underlying3
  rw [show (10000 : Nat) = 9999 + 1 from rfl]
  go_simp
  by_cases he : p = q
  · subst he
    simp
  · have hf : decide (p = q) = false := by simpa using he
    rw [hf]
    iterate 2 (refine if_chainB fun _ => ?_)
    exfalso
    refine he ?_
    first
      | exact Prod.ext ((keyEq _ _).2 (by assumption)) (by assumption)
      | (simp only [beq_iff_eq] at *; exact Prod.ext ((keyEq _ _).2 (by assumption)) (by assumption))
      | (simp_all; done)
theorem sliceEqC (a b : Option Addr) (c d : Nat) (ps qs : List PairV) (w : World) (h1 : (rS a c 2 (ps.map rowOf)).holds w) (h2 : (rS b d 2 (qs.map rowOf)).holds w) (hb : ps.length ≤ 1000000) (hb2 : qs.length ≤ 1000000) :
    Calls Try.prog 73 #[.slice a ps.length c, .slice b qs.length d] w fun e w' => e = .returned (.bool (decide (ps = qs))) ∧ Off [] w w' := by
  have H0 := Lib.hid (Hp.start [] w)
  have H1 := hp_old H0 h2 (by decide)
  have H := hp_old H1 h1 (by decide)
  clear H0 H1
  have HN := Lib.hid (fun i (hi : i < ps.length) => some_of_row h1 (i := i) (by simpa using hi))
  have HN2 := Lib.hid (fun i (hi : i < qs.length) => some_of_row h2 (i := i) (by simpa using hi))
  clear h1 h2
  rcases Bool.eq_false_or_eq_true ((ps.length : Int) == (qs.length : Int)) with q | q
  · have hlen : ps.length = qs.length := by have := eq_of_beq q; omega
    have hq2 : ((ps.length : Int) != (qs.length : Int)) = false := by simp [hlen]
    clear q
    generalize hn : ps.length = n at *
    have hm := Lib.hid hlen.symm
    have hnq : qs.length = n := hlen.symm
    rw [hnq] at hq2 ⊢
    clear hnq hlen
    go_enter Try.func73, Try.ntmps73
    go_wp2_with fail
    go_loopw [13] (fun vi wr => ∃ ii : Nat, ii ≤ n ∧ vi = .int .i64 ii ∧ Hid (ps.take ii = qs.take ii) ∧ Hid (Hp [] w wr [rS a c 2 (ps.map rowOf), rS b d 2 (qs.map rowOf)])) (fun vi _ => n - (intOf vi).toNat)
    case atStart => exact ⟨0, by omega, rfl, Lib.hid (by simp), H⟩
    case round =>
      clear H
      obtain ⟨ii, hi, rfl, hT, H⟩ := hrel
      by_cases hlt : ii < n
      · obtain ⟨y, rfl⟩ := HN.out ii (by omega)
        obtain ⟨z, rfl⟩ := HN2.out ii (by rw [hm.out]; omega)
        obtain ⟨p, hp, hpt⟩ := row_cons (ps := ps) (i := ii) (by omega)
        obtain ⟨r, hr, hrt⟩ := row_cons (ps := qs) (i := ii) (by rw [hm.out]; omega)
        have HR := Lib.hid (row_at hp)
        have HR2 := Lib.hid (row_at hr)
        have HP := Lib.hid hp
        have HQ := Lib.hid hr
        have HPT := Lib.hid hpt
        have HRT := Lib.hid hrt
        have HE := Lib.hid (run_eqlP p r)
        clear hp hr hpt hrt
        go_upto_region 6 with (first | fail)
        (with_reducible apply g_region 6)
        refine hp_walks H (fun j => match j with | 0 => .slice (some y) n c | 1 => .int .i64 ii | 2 => .pointer (some (y.add (ii * 2))) | 3 => .agg #[.string p.1, .int .i64 p.2] | 4 => .slice (some z) n d | 5 => .int .i64 ii | 6 => .pointer (some (z.add (ii * 2))) | 7 => .agg #[.string r.1, .int .i64 r.2] | 8 => .bool (!decide (p = r)) | _ => undef) (by kernel_rfl) ⟨[0, 0, 1, 2, 0, 0, 1, 2, 3], by kernel_rfl⟩ (by kernel_rfl) 26 rfl (by kernel_rfl) (by kernel_rfl) ?_ ?_ ?_
        · intro i o ho a' w' hfr H hdep hwant Q' hQ
          match i, ho with
          | 0, ho =>
            have ho2 := Option.some.inj ho
            clear ho
            subst ho2
            have e0 : a'.eval (.tmp 0) = .slice (some y) n c := (hfr.old 0 (by kernel_rfl)).trans rfl
            have g0 : (a'.tmps[0]?).getD undef = .slice (some y) n c := by rw [← Array.getD_eq_getD_getElem?]; exact e0
            refine wpList_step fun K hK => ?_
            rw [if_pos hwant]
            exact Inv.wp_val (.slice (some y) n c) (by simp only [execOp]; go_simp) (hK _ _ (hQ _ H))
          | 1, ho =>
            have ho2 := Option.some.inj ho
            clear ho
            subst ho2
            have e5 : a'.eval (.tmp 5) = .int .i64 ii := (hfr.old 5 (by kernel_rfl)).trans rfl
            have g5 : (a'.tmps[5]?).getD undef = .int .i64 ii := by rw [← Array.getD_eq_getD_getElem?]; exact e5
            refine wpList_step fun K hK => ?_
            rw [if_pos hwant]
            exact Inv.wp_val (.int .i64 ii) (by simp only [execOp]; go_simp) (hK _ _ (hQ _ H))
          | 2, ho =>
            have ho2 := Option.some.inj ho
            clear ho
            subst ho2
            have e16 : a'.eval (.tmp 16) = .slice (some y) n c := hdep ⟨0, .data⟩ (by simp) rfl
            have g16 : (a'.tmps[16]?).getD undef = .slice (some y) n c := by rw [← Array.getD_eq_getD_getElem?]; exact e16
            have e17 : a'.eval (.tmp 17) = .int .i64 ii := hdep ⟨1, .data⟩ (by simp) rfl
            have g17 : (a'.tmps[17]?).getD undef = .int .i64 ii := by rw [← Array.getD_eq_getD_getElem?]; exact e17
            refine wpList_step fun K hK => ?_
            rw [if_pos hwant]
            exact Inv.wp_val (.pointer (some (y.add (ii * 2)))) (by simp only [execOp]; go_simp) (hK _ _ (hQ _ H))
          | 3, ho =>
            have ho2 := Option.some.inj ho
            clear ho
            subst ho2
            have e18 : a'.eval (.tmp 18) = .pointer (some (y.add (ii * 2))) := hdep ⟨2, .data⟩ (by simp) rfl
            have g18 : (a'.tmps[18]?).getD undef = .pointer (some (y.add (ii * 2))) := by rw [← Array.getD_eq_getD_getElem?]; exact e18
            refine hpS_load tyshelf_Pair_string__int_ H rfl e18 hwant (by (repeat (first | exact List.Mem.head _ | apply List.Mem.tail))) HR.out rfl ?_
            exact hQ _ H
          | 4, ho =>
            have ho2 := Option.some.inj ho
            clear ho
            subst ho2
            have e1 : a'.eval (.tmp 1) = .slice (some z) n d := (hfr.old 1 (by kernel_rfl)).trans rfl
            have g1 : (a'.tmps[1]?).getD undef = .slice (some z) n d := by rw [← Array.getD_eq_getD_getElem?]; exact e1
            refine wpList_step fun K hK => ?_
            rw [if_pos hwant]
            exact Inv.wp_val (.slice (some z) n d) (by simp only [execOp]; go_simp) (hK _ _ (hQ _ H))
          | 5, ho =>
            have ho2 := Option.some.inj ho
            clear ho
            subst ho2
            have e5 : a'.eval (.tmp 5) = .int .i64 ii := (hfr.old 5 (by kernel_rfl)).trans rfl
            have g5 : (a'.tmps[5]?).getD undef = .int .i64 ii := by rw [← Array.getD_eq_getD_getElem?]; exact e5
            refine wpList_step fun K hK => ?_
            rw [if_pos hwant]
            exact Inv.wp_val (.int .i64 ii) (by simp only [execOp]; go_simp) (hK _ _ (hQ _ H))
          | 6, ho =>
            have ho2 := Option.some.inj ho
            clear ho
            subst ho2
            have e20 : a'.eval (.tmp 20) = .slice (some z) n d := hdep ⟨4, .data⟩ (by simp) rfl
            have g20 : (a'.tmps[20]?).getD undef = .slice (some z) n d := by rw [← Array.getD_eq_getD_getElem?]; exact e20
            have e21 : a'.eval (.tmp 21) = .int .i64 ii := hdep ⟨5, .data⟩ (by simp) rfl
            have g21 : (a'.tmps[21]?).getD undef = .int .i64 ii := by rw [← Array.getD_eq_getD_getElem?]; exact e21
            refine wpList_step fun K hK => ?_
            rw [if_pos hwant]
            exact Inv.wp_val (.pointer (some (z.add (ii * 2)))) (by simp only [execOp]; go_simp) (hK _ _ (hQ _ H))
          | 7, ho =>
            have ho2 := Option.some.inj ho
            clear ho
            subst ho2
            have e22 : a'.eval (.tmp 22) = .pointer (some (z.add (ii * 2))) := hdep ⟨6, .data⟩ (by simp) rfl
            have g22 : (a'.tmps[22]?).getD undef = .pointer (some (z.add (ii * 2))) := by rw [← Array.getD_eq_getD_getElem?]; exact e22
            refine hpS_load tyshelf_Pair_string__int_ H rfl e22 hwant (by (repeat (first | exact List.Mem.head _ | apply List.Mem.tail))) HR2.out rfl ?_
            exact hQ _ H
          | 8, ho =>
            have ho2 := Option.some.inj ho
            clear ho
            subst ho2
            have e19 : a'.eval (.tmp 19) = .agg #[.string p.1, .int .i64 p.2] := hdep ⟨3, .data⟩ (by simp) rfl
            have g19 : (a'.tmps[19]?).getD undef = .agg #[.string p.1, .int .i64 p.2] := by rw [← Array.getD_eq_getD_getElem?]; exact e19
            have e23 : a'.eval (.tmp 23) = .agg #[.string r.1, .int .i64 r.2] := hdep ⟨7, .data⟩ (by simp) rfl
            have g23 : (a'.tmps[23]?).getD undef = .agg #[.string r.1, .int .i64 r.2] := by rw [← Array.getD_eq_getD_getElem?]; exact e23
            refine hp_neq_struct rfl hwant e19 e23 (by kernel_rfl) HE.out ?_
            exact hQ _ H
          | _ + 9, ho => simp at ho
        · intro i o ho a' hdep hwant
          match i, ho with
          | 0, ho =>
            have ho2 := Option.some.inj ho
            clear ho
            subst ho2
            exact (skip_none hwant rfl).elim
          | 1, ho =>
            have ho2 := Option.some.inj ho
            clear ho
            subst ho2
            exact (skip_none hwant rfl).elim
          | 2, ho =>
            have ho2 := Option.some.inj ho
            clear ho
            subst ho2
            exact (skip_none hwant rfl).elim
          | 3, ho =>
            have ho2 := Option.some.inj ho
            clear ho
            subst ho2
            exact (skip_none hwant rfl).elim
          | 4, ho =>
            have ho2 := Option.some.inj ho
            clear ho
            subst ho2
            exact (skip_none hwant rfl).elim
          | 5, ho =>
            have ho2 := Option.some.inj ho
            clear ho
            subst ho2
            exact (skip_none hwant rfl).elim
          | 6, ho =>
            have ho2 := Option.some.inj ho
            clear ho
            subst ho2
            exact (skip_none hwant rfl).elim
          | 7, ho =>
            have ho2 := Option.some.inj ho
            clear ho
            subst ho2
            exact (skip_none hwant rfl).elim
          | 8, ho =>
            have ho2 := Option.some.inj ho
            clear ho
            subst ho2
            exact (skip_none hwant rfl).elim
          | _ + 9, ho => simp at ho
        · clear H
          intro w5 H
          simp only [List.size_toArray, List.length_cons, List.length_nil, Nat.reduceAdd, Inv.putAll, Inv.dstAt, List.getElem?_toArray, List.getElem?_cons_zero, List.getElem?_cons_succ, Option.bind_some, Act.put, List.setIfInBounds_toArray, List.set_cons_zero, List.set_cons_succ]
          rcases Bool.eq_false_or_eq_true (!decide (p = r)) with q | q
          · have hne : ps ≠ qs := fun h => by
              have h3 := HP.out
              rw [h, HQ.out] at h3
              injection h3 with h3
              simp [h3] at q
            have hd : decide (ps = qs) = false := by simpa using hne
            rw [q]
            clear q
            go_wp2_with fail
            go_ret
            exact ⟨by rw [hd]; rfl, H.out.off⟩
          · have hpr : p = r := by simpa using q
            have HTT := Lib.hid (show ps.take (ii + 1) = qs.take (ii + 1) by rw [HPT.out, HRT.out, hT.out, hpr])
            clear hpr
            rw [q]
            clear q
            go_wp2_with fail
            go_roundw
            case rel => exact ⟨ii + 1, by omega, by go_num, HTT, H⟩
            case measure => simp [intOf]; omega
      · obtain rfl : ii = n := by omega
        have hpq : ps = qs := by
          have h3 := hT.out
          rwa [List.take_of_length_le (by omega), List.take_of_length_le (by rw [hm.out]; exact Nat.le_refl _)] at h3
        have hd : decide (ps = qs) = true := by simpa using hpq
        have HD := Lib.hid hd
        clear hpq hd
        go_wp2_with fail
        go_ret
        exact ⟨by rw [HD.out]; rfl, H.out.off⟩
  · have hlen : ps.length ≠ qs.length := fun h => by rw [h] at q; simp at q
    have hd : decide (ps = qs) = false := by
      simp only [decide_eq_false_iff_not]
      exact fun h => hlen (by rw [h])
    have hq2 : ((ps.length : Int) != (qs.length : Int)) = true := by simp [bne, q]
    have HD := Lib.hid hd
    clear hd hlen
    go_enter Try.func73, Try.ntmps73
    go_wp2_with fail
    go_ret
    exact ⟨by rw [HD.out]; rfl, H.out.off⟩
theorem equalC (r1 r2 : Int) (a b : Option Addr) (c d : Nat) (ps qs : List PairV) (w : World) (h1 : (rS a c 2 (ps.map rowOf)).holds w) (h2 : (rS b d 2 (qs.map rowOf)).holds w) (hb : ps.length ≤ 1000000) (hb2 : qs.length ≤ 1000000) :
    Calls Try.prog 30 #[.agg #[.int .i64 r1, .slice a ps.length c], .agg #[.int .i64 r2, .slice b qs.length d]] w fun e w' => e = .returned (.bool (r1 == r2 && decide (ps = qs))) ∧ Off [] w w' := by
  have H0 := Lib.hid (Hp.start [] w)
  have H1 := hp_old H0 h2 (by decide)
  have H := hp_old H1 h1 (by decide)
  clear H0 H1 h1 h2
  rcases Bool.eq_false_or_eq_true (r1 == r2) with q | q
  · rw [q]
    go_enter Try.func30, Try.ntmps30
    go_wp2_with (first
      | ((with_reducible apply g_mem); (focus (exact rfl)); first
      | ((with_reducible apply hpN_box 43 2 H); (focus (exact rfl)); (focus (exact rfl)); (focus (exact rfl)); (focus (exact rfl)); (focus (exact rfl)); intro w5 b2 H5; clear H; have H := H5; clear H5)
      | ((with_reducible apply hpN_box 43 3 H); (focus (exact rfl)); (focus (exact rfl)); (focus (exact rfl)); (focus (exact rfl)); (focus (exact rfl)); intro w5 b3 H5; clear H; have H := H5; clear H5)
      | ((with_reducible apply hpA_load1 tyint H); (focus (exact rfl)); (focus (exact rfl)); (focus (first | (exact rfl) | (simp [Region.wanted]; done) | (simp only [Region.wanted]; go_simp; done))); (focus (repeat (first | exact List.Mem.head _ | apply List.Mem.tail))); (focus ((try simp only [List.getElem?_cons_zero, List.getElem?_cons_succ]); exact rfl)))
      | ((with_reducible apply hpA_load1 tyS_shelf_Pair_string_int_ H); (focus (exact rfl)); (focus (exact rfl)); (focus (first | (exact rfl) | (simp [Region.wanted]; done) | (simp only [Region.wanted]; go_simp; done))); (focus (repeat (first | exact List.Mem.head _ | apply List.Mem.tail))); (focus ((try simp only [List.getElem?_cons_zero, List.getElem?_cons_succ]); exact rfl))))
      | (go_at_call 73; (with_reducible refine (sliceEqC _ _ c d ps qs _ (hp_held H (by simp)) (hp_held H (by simp)) hb hb2).mono ?_); rintro e w5 ⟨rfl, ho⟩; have H5 := Lib.hid (H.out.quiet ho); clear H ho; have H := H5; clear H5)
      | ((with_reducible apply g_mem); (focus (exact rfl)); (with_reducible apply hpS_load tyshelf_Pair_string__int_ H); (focus (exact rfl)); (focus (exact rfl)); (focus (first | (exact rfl) | (simp [Region.wanted]; done) | (simp only [Region.wanted]; go_simp; done))); (focus (repeat (first | exact List.Mem.head _ | apply List.Mem.tail))); (focus (exact HR.out)); (focus (exact rfl)))
      | ((with_reducible apply g_mem); (focus (exact rfl)); (with_reducible apply hpS_load1 1 tyint H); (focus (exact rfl)); (focus (exact rfl)); (focus (first | (exact rfl) | (simp [Region.wanted]; done) | (simp only [Region.wanted]; go_simp; done))); (focus (repeat (first | exact List.Mem.head _ | apply List.Mem.tail))); (focus (exact HR.out)); (focus (exact rfl)); (focus (first | exact rfl | (simp [Addr.add]; done))))
      | (simp only [eql_fn_nil _ _ Try.underlying58, eql_nilnil_fn _ _ Try.underlying58, Result.andThen_ok]))
    go_ret
    exact ⟨by simp, H.out.off⟩
  · rw [q]
    go_enter Try.func30, Try.ntmps30
    go_wp2_with (first
      | ((with_reducible apply g_mem); (focus (exact rfl)); first
      | ((with_reducible apply hpN_box 43 2 H); (focus (exact rfl)); (focus (exact rfl)); (focus (exact rfl)); (focus (exact rfl)); (focus (exact rfl)); intro w5 b2 H5; clear H; have H := H5; clear H5)
      | ((with_reducible apply hpN_box 43 3 H); (focus (exact rfl)); (focus (exact rfl)); (focus (exact rfl)); (focus (exact rfl)); (focus (exact rfl)); intro w5 b3 H5; clear H; have H := H5; clear H5)
      | ((with_reducible apply hpA_load1 tyint H); (focus (exact rfl)); (focus (exact rfl)); (focus (first | (exact rfl) | (simp [Region.wanted]; done) | (simp only [Region.wanted]; go_simp; done))); (focus (repeat (first | exact List.Mem.head _ | apply List.Mem.tail))); (focus ((try simp only [List.getElem?_cons_zero, List.getElem?_cons_succ]); exact rfl)))
      | ((with_reducible apply hpA_load1 tyS_shelf_Pair_string_int_ H); (focus (exact rfl)); (focus (exact rfl)); (focus (first | (exact rfl) | (simp [Region.wanted]; done) | (simp only [Region.wanted]; go_simp; done))); (focus (repeat (first | exact List.Mem.head _ | apply List.Mem.tail))); (focus ((try simp only [List.getElem?_cons_zero, List.getElem?_cons_succ]); exact rfl))))
      | (go_at_call 73; (with_reducible refine (sliceEqC _ _ c d ps qs _ (hp_held H (by simp)) (hp_held H (by simp)) hb hb2).mono ?_); rintro e w5 ⟨rfl, ho⟩; have H5 := Lib.hid (H.out.quiet ho); clear H ho; have H := H5; clear H5)
      | ((with_reducible apply g_mem); (focus (exact rfl)); (with_reducible apply hpS_load tyshelf_Pair_string__int_ H); (focus (exact rfl)); (focus (exact rfl)); (focus (first | (exact rfl) | (simp [Region.wanted]; done) | (simp only [Region.wanted]; go_simp; done))); (focus (repeat (first | exact List.Mem.head _ | apply List.Mem.tail))); (focus (exact HR.out)); (focus (exact rfl)))
      | ((with_reducible apply g_mem); (focus (exact rfl)); (with_reducible apply hpS_load1 1 tyint H); (focus (exact rfl)); (focus (exact rfl)); (focus (first | (exact rfl) | (simp [Region.wanted]; done) | (simp only [Region.wanted]; go_simp; done))); (focus (repeat (first | exact List.Mem.head _ | apply List.Mem.tail))); (focus (exact HR.out)); (focus (exact rfl)); (focus (first | exact rfl | (simp [Addr.add]; done))))
      | (simp only [eql_fn_nil _ _ Try.underlying58, eql_nilnil_fn _ _ Try.underlying58, Result.andThen_ok]))
    go_ret
    exact ⟨by simp, H.out.off⟩

end Go.Proofs.Ytfhhfmkfkoemjaa.Si6
