/- Layer 14: a request's bytes. -/
import Derived.Test.YthflkhalipkdgaaGreatProg
import Derived.Below
import Derived.WalkKit
import Derived.KernelRfl
import Derived.RowKit3
import Derived.Deep.LoopGhost
import Derived.Deep.QuietTactic
import Derived.BigQuiet
import Derived.WideLaws
import Derived.Deep.DeepCutAuto
import Derived.Deep.CutBlock
import Derived.Lib.Hide
import Derived.Laws.BitsLemmas
import Derived.Laws.Bits64
import Derived.Laws.BitsAllLaws
import Derived.IntWalk
import Derived.Outline
import Derived.WalkSpells
import Derived.Test.YthflkhalipkdgaaGreatGA
import Derived.Test.YthflkhalipkdgaaGreatWr
namespace Go.Proofs.YthflkhalipkdgaaGreat.Ms
set_option maxRecDepth 20000
set_option linter.unusedVariables false
set_option linter.unusedSimpArgs false
open Go.RowKit Go.Proofs.YthflkhalipkdgaaGreat.Mem Go.Proofs.YthflkhalipkdgaaGreat.Pk Go.Proofs.YthflkhalipkdgaaGreat.Ca

set_option maxRecDepth 20000 in
set_option maxHeartbeats 64000000 in
theorem write_yes (q : ReqV) (hq : okReq q) (w : World) (ps : List Part) (hp : partsV q.kind = some ps) (q0 : isCountV q.seq = true) (q1 : isFilterV q.filter = true) : Calls Tryz.prog 44 #[.agg #[.int .i64 q.kind, .int .i64 q.seq, .int .i64 q.who, .int .i64 q.role, .int .u32 q.token, .int .u64 q.key, .int .i64 q.call.id, .int .i64 q.call.kind, .int .i64 q.call.src, .int .i64 q.call.dst, .int .i64 q.call.car, .int .i64 q.call.state, .int .i64 q.call.owner, .int .i64 q.call.born, .int .i64 q.id, .int .i64 q.car, .int .i64 q.mode, .int .i64 q.filter.kind, .int .i64 q.filter.n]] w fun e w' => e = .returned (.tuple #[.string (writeV q).1, .int .i64 (writeV q).2]) ∧ Off [] w w' := by
  have H := Lib.hid (Hp.start [] w)
  have h5 := parts_few _ _ hp
  obtain ⟨ht, hkk⟩ := hq
  have HT := Lib.hid ht
  have HK := Lib.hid hkk
  clear ht hkk
  have eW : writeV q = if (ps.all fun p => (encPart q p).2) = true then (str (headOf q ++ bytesOf q ps), 0) else (⟨#[]⟩, 1) := by unfold writeV; rw [hp]; simp only []; rw [if_neg (by simp [q0, q1])]
  have HW := Lib.hid eW
  clear eW
  go_enter Tryz.func44, Tryz.ntmps44
  go_wp2_with (first
    | ((with_reducible apply g_mem); (focus (exact rfl)); (with_reducible apply hpN_box 113 10 H); (focus (exact rfl)); (focus (exact rfl)); (focus (exact rfl)); (focus (exact rfl)); (focus (exact rfl)); intro w5 b10 H5; clear H; have H := outNewH H5; clear H5)
    | ((with_reducible apply g_mem); (focus (exact rfl)); first
      | ((with_reducible apply hpN_box 43 1 H); (focus (exact rfl)); (focus (exact rfl)); (focus (exact rfl)); (focus (exact rfl)); (focus (exact rfl)); intro w5 b1 H5; clear H; have H := H5; clear H5)
      | ((with_reducible apply hpN_box 113 10 H); (focus (exact rfl)); (focus (exact rfl)); (focus (exact rfl)); (focus (exact rfl)); (focus (exact rfl)); intro w5 b10 H5; clear H; have H := H5; clear H5)
      | ((with_reducible apply hpA_load1 tyint H); (focus (exact rfl)); (focus (exact rfl)); (focus (first | (exact rfl) | (simp [Region.wanted]; done) | (simp only [Region.wanted]; go_simp; done))); (focus (repeat (first | exact List.Mem.head _ | apply List.Mem.tail))); (focus ((try simp only [List.getElem?_cons_zero, List.getElem?_cons_succ]); exact rfl)))
      | ((with_reducible apply hpA_load tymsg_Filter H); (focus (exact rfl)); (focus (exact rfl)); (focus (first | (exact rfl) | (simp [Region.wanted]; done) | (simp only [Region.wanted]; go_simp; done))); (focus (repeat (first | exact List.Mem.head _ | apply List.Mem.tail))); (focus ((try simp only [List.drop_zero, List.drop_succ_cons, List.take_succ_cons, List.take_zero]); exact rfl)); (focus (exact rfl)))
      | ((with_reducible apply hpN_bslice Tryz.underlying67 tyint 34 H); (focus (exact rfl)); (focus (exact rfl)); (focus (first | (exact rfl) | (simp [Region.wanted]; done) | (simp only [Region.wanted]; go_simp; done))); (focus (first | decide | (simp; done))); (focus (first | decide | (simp; done))); (focus (first | (go_simp; exact rfl) | exact rfl)); intro w5 b34 H5; clear H; have H := H5; clear H5)
      | ((with_reducible apply hpN_bslice Tryz.underlying67 tyint 39 H); (focus (exact rfl)); (focus (exact rfl)); (focus (first | (exact rfl) | (simp [Region.wanted]; done) | (simp only [Region.wanted]; go_simp; done))); (focus (first | decide | (simp; done))); (focus (first | decide | (simp; done))); (focus (first | (go_simp; exact rfl) | exact rfl)); intro w5 b39 H5; clear H; have H := H5; clear H5)
      | ((with_reducible apply hpA_load tymsg_part H); (focus (exact rfl)); (focus (exact rfl)); (focus (first | (exact rfl) | (simp [Region.wanted]; done) | (simp only [Region.wanted]; go_simp; done))); (focus (repeat (first | exact List.Mem.head _ | apply List.Mem.tail))); (focus ((try simp only [List.drop_zero, List.drop_succ_cons, List.take_succ_cons, List.take_zero]); exact rfl)); (focus (exact rfl)))
      | ((with_reducible apply hpN_alloc tymsg_part 8 H); (focus (exact rfl)); (focus (exact rfl)); (focus (exact rfl)); intro w5 b8 H5; clear H; have H := H5; clear H5)
      | ((with_reducible apply hpA_store tymsg_part H); (focus (exact rfl)); (focus (exact rfl)); (focus (exact rfl)); (focus (exact rfl)); (focus (exact rfl)); (focus (repeat (first | apply Put.head | apply Put.tail))); (focus (first | (simp; done) | (simp [*]; done) | (simp [Value.oneCell']; done))); (focus (first | (simp; done) | (simp [*]; done) | (simp [Value.oneCell']; done))); (focus ((try simp only [spl]); exact rfl)); (focus (exact rfl)); intro w5 H5; clear H; have H := H5; clear H5)
      | ((with_reducible apply hpA_load1 tyfunc_P_pack_Out__P_msg_Request__bool H); (focus (exact rfl)); (focus (exact rfl)); (focus (first | (exact rfl) | (simp [Region.wanted]; done) | (simp only [Region.wanted]; go_simp; done))); (focus (repeat (first | exact List.Mem.head _ | apply List.Mem.tail))); (focus ((try simp only [List.getElem?_cons_zero, List.getElem?_cons_succ]); exact rfl))))
    | (go_at_call 73; (with_reducible refine (isCount _ _).mono ?_); rintro e w5 ⟨rfl, rfl⟩)
    | (go_at_call 74; (with_reducible refine (filterIs _ _).mono ?_); rintro e w5 ⟨rfl, ho⟩; have H5 := Lib.hid (H.out.quiet ho); clear H ho; have H := H5; clear H5)
    | (go_at_call 74; (with_reducible refine (filterIsX _ _ _).mono ?_); rintro e w5 ⟨rfl, ho⟩; have H5 := Lib.hid (H.out.quiet ho); clear H ho; have H := H5; clear H5)
    | (go_at_call 72; (with_reducible refine (partsC _ _).mono ?_); rintro e w5 ⟨v4, rfl, F4, hps, hf, ho⟩; rw [hp] at hps; simp only [Option.getD_some] at hps; obtain ⟨fs4, hps⟩ := hps; obtain ⟨a4, c4, rfl⟩ := PfAt.form (v := v4) hps; have H5 := Lib.hid (H.out.push (rPf F4 _ fs4 _) ho hps hf); clear H hps hf ho; have H := H5; clear H5)
    | (go_at_call 75; first | (go_loud (refine (outNumsH H (i := 2) (j := 0) (ns := [_]) rfl rfl rfl rfl (by simp) (by simp)).mono ?_); rintro e w5 ⟨rfl, F5, H5⟩; simp only [List.set_cons_zero, List.set_cons_succ] at H5; clear H; have H := H5; clear H5) | ((refine (outNumsH H (i := 3) (j := 0) (ns := [_]) rfl rfl rfl rfl (by simp) (by simp)).mono ?_); rintro e w5 ⟨rfl, F5, H5⟩; simp only [List.set_cons_zero, List.set_cons_succ] at H5; clear H; have H := H5; clear H5)))
  have HPS := Lib.hid hp
  clear hp
  go_loopw [43] (fun vi wr => ∃ (k : Nat) (Fo : List Nat), k ≤ ps.length ∧ vi = .int .i64 k ∧ Hid (((ps.take k).all fun p => (encPart q p).2) = true) ∧ Hid (Hp [] w wr [rPf F4 (.slice a4 ps.length c4) fs4 ps, rOut b10 Fo (16 + 16 * k) (headOf q ++ bytesOf q (ps.take k)), rB b1 43 [.int .i64 q.kind, .int .i64 q.seq, .int .i64 q.who, .int .i64 q.role, .int .u32 q.token, .int .u64 q.key, .int .i64 q.call.id, .int .i64 q.call.kind, .int .i64 q.call.src, .int .i64 q.call.dst, .int .i64 q.call.car, .int .i64 q.call.state, .int .i64 q.call.owner, .int .i64 q.call.born, .int .i64 q.id, .int .i64 q.car, .int .i64 q.mode, .int .i64 q.filter.kind, .int .i64 q.filter.n]])) (fun vi _ => ps.length - (intOf vi).toNat)
  case atStart => exact ⟨0, F5, by omega, rfl, Lib.hid (by simp), Lib.hid (by have h := H.out.sub (R' := [rPf F4 (.slice a4 ps.length c4) fs4 ps, rOut b10 F5 16 ([] ++ (encs 1 [q.kind]).1 ++ (encs 4 [q.seq]).1), rB b1 43 [.int .i64 q.kind, .int .i64 q.seq, .int .i64 q.who, .int .i64 q.role, .int .u32 q.token, .int .u64 q.key, .int .i64 q.call.id, .int .i64 q.call.kind, .int .i64 q.call.src, .int .i64 q.call.dst, .int .i64 q.call.car, .int .i64 q.call.state, .int .i64 q.call.owner, .int .i64 q.call.born, .int .i64 q.id, .int .i64 q.car, .int .i64 q.mode, .int .i64 q.filter.kind, .int .i64 q.filter.n]]) (by simp); simpa [headOf, bytesOf] using h)⟩
  case round =>
    clear H
    obtain ⟨k, Fo, hk, rfl, hall, H⟩ := hrel
    by_cases hlt : k < ps.length
    · obtain ⟨x, fp, fg, rfl, hfk, hcell, hpart⟩ := PfAt.cells (H.out.at 0 rfl) k hlt
      have hpk : ps[k]? = some ps[k] := by simp [hlt]
      have HB := Lib.hid (bytes_snoc q ps k hlt)
      have HA := Lib.hid (all_snoc q ps k hlt)
      have HN := Lib.hid (all_not q ps k hlt)
      generalize ps[k] = p at *
      have c0 := hcell.first _ rfl
      have c1 := hcell.next 0 _ rfl
      have HF := Lib.hid hfk
      have HPK := Lib.hid hpk
      clear hcell hfk hpk
      rcases Bool.eq_false_or_eq_true (encPart q p).2 with q3 | q3
      · cases p with
        | num wd off chk =>
          obtain ⟨_, _, _, bo, bc, bw, rfl, rfl, _⟩ := hpart
          go_wp2_with (first
            | ((with_reducible apply g_mem); (focus (exact rfl)); (with_reducible apply hpN_box 113 10 H); (focus (exact rfl)); (focus (exact rfl)); (focus (exact rfl)); (focus (exact rfl)); (focus (exact rfl)); intro w5 b10 H5; clear H; have H := outNewH H5; clear H5)
            | ((with_reducible apply g_mem); (focus (exact rfl)); first
      | ((with_reducible apply hpN_box 43 1 H); (focus (exact rfl)); (focus (exact rfl)); (focus (exact rfl)); (focus (exact rfl)); (focus (exact rfl)); intro w5 b1 H5; clear H; have H := H5; clear H5)
      | ((with_reducible apply hpN_box 113 10 H); (focus (exact rfl)); (focus (exact rfl)); (focus (exact rfl)); (focus (exact rfl)); (focus (exact rfl)); intro w5 b10 H5; clear H; have H := H5; clear H5)
      | ((with_reducible apply hpA_load1 tyint H); (focus (exact rfl)); (focus (exact rfl)); (focus (first | (exact rfl) | (simp [Region.wanted]; done) | (simp only [Region.wanted]; go_simp; done))); (focus (repeat (first | exact List.Mem.head _ | apply List.Mem.tail))); (focus ((try simp only [List.getElem?_cons_zero, List.getElem?_cons_succ]); exact rfl)))
      | ((with_reducible apply hpA_load tymsg_Filter H); (focus (exact rfl)); (focus (exact rfl)); (focus (first | (exact rfl) | (simp [Region.wanted]; done) | (simp only [Region.wanted]; go_simp; done))); (focus (repeat (first | exact List.Mem.head _ | apply List.Mem.tail))); (focus ((try simp only [List.drop_zero, List.drop_succ_cons, List.take_succ_cons, List.take_zero]); exact rfl)); (focus (exact rfl)))
      | ((with_reducible apply hpN_bslice Tryz.underlying67 tyint 34 H); (focus (exact rfl)); (focus (exact rfl)); (focus (first | (exact rfl) | (simp [Region.wanted]; done) | (simp only [Region.wanted]; go_simp; done))); (focus (first | decide | (simp; done))); (focus (first | decide | (simp; done))); (focus (first | (go_simp; exact rfl) | exact rfl)); intro w5 b34 H5; clear H; have H := H5; clear H5)
      | ((with_reducible apply hpN_bslice Tryz.underlying67 tyint 39 H); (focus (exact rfl)); (focus (exact rfl)); (focus (first | (exact rfl) | (simp [Region.wanted]; done) | (simp only [Region.wanted]; go_simp; done))); (focus (first | decide | (simp; done))); (focus (first | decide | (simp; done))); (focus (first | (go_simp; exact rfl) | exact rfl)); intro w5 b39 H5; clear H; have H := H5; clear H5)
      | ((with_reducible apply hpA_load tymsg_part H); (focus (exact rfl)); (focus (exact rfl)); (focus (first | (exact rfl) | (simp [Region.wanted]; done) | (simp only [Region.wanted]; go_simp; done))); (focus (repeat (first | exact List.Mem.head _ | apply List.Mem.tail))); (focus ((try simp only [List.drop_zero, List.drop_succ_cons, List.take_succ_cons, List.take_zero]); exact rfl)); (focus (exact rfl)))
      | ((with_reducible apply hpN_alloc tymsg_part 8 H); (focus (exact rfl)); (focus (exact rfl)); (focus (exact rfl)); intro w5 b8 H5; clear H; have H := H5; clear H5)
      | ((with_reducible apply hpA_store tymsg_part H); (focus (exact rfl)); (focus (exact rfl)); (focus (exact rfl)); (focus (exact rfl)); (focus (exact rfl)); (focus (repeat (first | apply Put.head | apply Put.tail))); (focus (first | (simp; done) | (simp [*]; done) | (simp [Value.oneCell']; done))); (focus (first | (simp; done) | (simp [*]; done) | (simp [Value.oneCell']; done))); (focus ((try simp only [spl]); exact rfl)); (focus (exact rfl)); intro w5 H5; clear H; have H := H5; clear H5)
      | ((with_reducible apply hpA_load1 tyfunc_P_pack_Out__P_msg_Request__bool H); (focus (exact rfl)); (focus (exact rfl)); (focus (first | (exact rfl) | (simp [Region.wanted]; done) | (simp only [Region.wanted]; go_simp; done))); (focus (repeat (first | exact List.Mem.head _ | apply List.Mem.tail))); (focus ((try simp only [List.getElem?_cons_zero, List.getElem?_cons_succ]); exact rfl))))
            | (go_at_call 73; (with_reducible refine (isCount _ _).mono ?_); rintro e w5 ⟨rfl, rfl⟩)
            | (go_at_call 74; (with_reducible refine (filterIs _ _).mono ?_); rintro e w5 ⟨rfl, ho⟩; have H5 := Lib.hid (H.out.quiet ho); clear H ho; have H := H5; clear H5)
            | (go_at_call 74; (with_reducible refine (filterIsX _ _ _).mono ?_); rintro e w5 ⟨rfl, ho⟩; have H5 := Lib.hid (H.out.quiet ho); clear H ho; have H := H5; clear H5)
            | (go_at_call 72; (with_reducible refine (partsC _ _).mono ?_); rintro e w5 ⟨v4, rfl, F4, hps, hf, ho⟩; rw [hp] at hps; simp only [Option.getD_some] at hps; obtain ⟨fs4, hps⟩ := hps; obtain ⟨a4, c4, rfl⟩ := PfAt.form (v := v4) hps; have H5 := Lib.hid (H.out.push (rPf F4 _ fs4 _) ho hps hf); clear H hps hf ho; have H := H5; clear H5)
            | (go_at_call 75; first | (go_loud (refine (outNumsH H (i := 2) (j := 0) (ns := [_]) rfl rfl rfl rfl (by simp) (by simp)).mono ?_); rintro e w5 ⟨rfl, F5, H5⟩; simp only [List.set_cons_zero, List.set_cons_succ] at H5; clear H; have H := H5; clear H5) | ((refine (outNumsH H (i := 3) (j := 0) (ns := [_]) rfl rfl rfl rfl (by simp) (by simp)).mono ?_); rintro e w5 ⟨rfl, F5, H5⟩; simp only [List.set_cons_zero, List.set_cons_succ] at H5; clear H; have H := H5; clear H5))
            | (go_at_call 100; go_loud (refine (put_num H (i := 2) (j := 3) (q := q) rfl rfl (by omega) (num_of H (k := 1) rfl HF.out HPK.out).1 (num_of H (k := 1) rfl HF.out HPK.out).2.2.2.2.2.2.2.1 (num_of H (k := 1) rfl HF.out HPK.out).2.2.2.2.2.2.2.2.1 (num_of H (k := 1) rfl HF.out HPK.out).2.2.2.2.2.2.2.2.2).mono ?_); rintro e w5 ⟨rfl, F5, H5⟩; simp only [List.set_cons_zero, List.set_cons_succ] at H5; clear H; have H := H5; clear H5))
          go_roundw
          case rel =>
            refine ⟨k + 1, F5, by omega, by go_num, Lib.hid (by rw [HA.out, hall.out, q3]; rfl), Lib.hid ?_⟩
            have h := H.out.sub (R' := [rPf F4 (.slice (some x) ps.length c4) fs4 ps, rOut b10 F5 (16 + 16 * k + 16) (headOf q ++ bytesOf q (ps.take k) ++ (encPart q (.num wd off chk)).1), rB b1 43 [.int .i64 q.kind, .int .i64 q.seq, .int .i64 q.who, .int .i64 q.role, .int .u32 q.token, .int .u64 q.key, .int .i64 q.call.id, .int .i64 q.call.kind, .int .i64 q.call.src, .int .i64 q.call.dst, .int .i64 q.call.car, .int .i64 q.call.state, .int .i64 q.call.owner, .int .i64 q.call.born, .int .i64 q.id, .int .i64 q.car, .int .i64 q.mode, .int .i64 q.filter.kind, .int .i64 q.filter.n]]) (by simp)
            rw [List.append_assoc, ← HB.out, show 16 + 16 * k + 16 = 16 + 16 * (k + 1) by omega] at h
            exact h
          case measure => simp [intOf]; omega
        | token =>
          obtain ⟨rfl, rfl⟩ := hpart
          go_wp2_with (first
            | ((with_reducible apply g_mem); (focus (exact rfl)); (with_reducible apply hpN_box 113 10 H); (focus (exact rfl)); (focus (exact rfl)); (focus (exact rfl)); (focus (exact rfl)); (focus (exact rfl)); intro w5 b10 H5; clear H; have H := outNewH H5; clear H5)
            | ((with_reducible apply g_mem); (focus (exact rfl)); first
      | ((with_reducible apply hpN_box 43 1 H); (focus (exact rfl)); (focus (exact rfl)); (focus (exact rfl)); (focus (exact rfl)); (focus (exact rfl)); intro w5 b1 H5; clear H; have H := H5; clear H5)
      | ((with_reducible apply hpN_box 113 10 H); (focus (exact rfl)); (focus (exact rfl)); (focus (exact rfl)); (focus (exact rfl)); (focus (exact rfl)); intro w5 b10 H5; clear H; have H := H5; clear H5)
      | ((with_reducible apply hpA_load1 tyint H); (focus (exact rfl)); (focus (exact rfl)); (focus (first | (exact rfl) | (simp [Region.wanted]; done) | (simp only [Region.wanted]; go_simp; done))); (focus (repeat (first | exact List.Mem.head _ | apply List.Mem.tail))); (focus ((try simp only [List.getElem?_cons_zero, List.getElem?_cons_succ]); exact rfl)))
      | ((with_reducible apply hpA_load tymsg_Filter H); (focus (exact rfl)); (focus (exact rfl)); (focus (first | (exact rfl) | (simp [Region.wanted]; done) | (simp only [Region.wanted]; go_simp; done))); (focus (repeat (first | exact List.Mem.head _ | apply List.Mem.tail))); (focus ((try simp only [List.drop_zero, List.drop_succ_cons, List.take_succ_cons, List.take_zero]); exact rfl)); (focus (exact rfl)))
      | ((with_reducible apply hpN_bslice Tryz.underlying67 tyint 34 H); (focus (exact rfl)); (focus (exact rfl)); (focus (first | (exact rfl) | (simp [Region.wanted]; done) | (simp only [Region.wanted]; go_simp; done))); (focus (first | decide | (simp; done))); (focus (first | decide | (simp; done))); (focus (first | (go_simp; exact rfl) | exact rfl)); intro w5 b34 H5; clear H; have H := H5; clear H5)
      | ((with_reducible apply hpN_bslice Tryz.underlying67 tyint 39 H); (focus (exact rfl)); (focus (exact rfl)); (focus (first | (exact rfl) | (simp [Region.wanted]; done) | (simp only [Region.wanted]; go_simp; done))); (focus (first | decide | (simp; done))); (focus (first | decide | (simp; done))); (focus (first | (go_simp; exact rfl) | exact rfl)); intro w5 b39 H5; clear H; have H := H5; clear H5)
      | ((with_reducible apply hpA_load tymsg_part H); (focus (exact rfl)); (focus (exact rfl)); (focus (first | (exact rfl) | (simp [Region.wanted]; done) | (simp only [Region.wanted]; go_simp; done))); (focus (repeat (first | exact List.Mem.head _ | apply List.Mem.tail))); (focus ((try simp only [List.drop_zero, List.drop_succ_cons, List.take_succ_cons, List.take_zero]); exact rfl)); (focus (exact rfl)))
      | ((with_reducible apply hpN_alloc tymsg_part 8 H); (focus (exact rfl)); (focus (exact rfl)); (focus (exact rfl)); intro w5 b8 H5; clear H; have H := H5; clear H5)
      | ((with_reducible apply hpA_store tymsg_part H); (focus (exact rfl)); (focus (exact rfl)); (focus (exact rfl)); (focus (exact rfl)); (focus (exact rfl)); (focus (repeat (first | apply Put.head | apply Put.tail))); (focus (first | (simp; done) | (simp [*]; done) | (simp [Value.oneCell']; done))); (focus (first | (simp; done) | (simp [*]; done) | (simp [Value.oneCell']; done))); (focus ((try simp only [spl]); exact rfl)); (focus (exact rfl)); intro w5 H5; clear H; have H := H5; clear H5)
      | ((with_reducible apply hpA_load1 tyfunc_P_pack_Out__P_msg_Request__bool H); (focus (exact rfl)); (focus (exact rfl)); (focus (first | (exact rfl) | (simp [Region.wanted]; done) | (simp only [Region.wanted]; go_simp; done))); (focus (repeat (first | exact List.Mem.head _ | apply List.Mem.tail))); (focus ((try simp only [List.getElem?_cons_zero, List.getElem?_cons_succ]); exact rfl))))
            | (go_at_call 73; (with_reducible refine (isCount _ _).mono ?_); rintro e w5 ⟨rfl, rfl⟩)
            | (go_at_call 74; (with_reducible refine (filterIs _ _).mono ?_); rintro e w5 ⟨rfl, ho⟩; have H5 := Lib.hid (H.out.quiet ho); clear H ho; have H := H5; clear H5)
            | (go_at_call 74; (with_reducible refine (filterIsX _ _ _).mono ?_); rintro e w5 ⟨rfl, ho⟩; have H5 := Lib.hid (H.out.quiet ho); clear H ho; have H := H5; clear H5)
            | (go_at_call 72; (with_reducible refine (partsC _ _).mono ?_); rintro e w5 ⟨v4, rfl, F4, hps, hf, ho⟩; rw [hp] at hps; simp only [Option.getD_some] at hps; obtain ⟨fs4, hps⟩ := hps; obtain ⟨a4, c4, rfl⟩ := PfAt.form (v := v4) hps; have H5 := Lib.hid (H.out.push (rPf F4 _ fs4 _) ho hps hf); clear H hps hf ho; have H := H5; clear H5)
            | (go_at_call 75; first | (go_loud (refine (outNumsH H (i := 2) (j := 0) (ns := [_]) rfl rfl rfl rfl (by simp) (by simp)).mono ?_); rintro e w5 ⟨rfl, F5, H5⟩; simp only [List.set_cons_zero, List.set_cons_succ] at H5; clear H; have H := H5; clear H5) | ((refine (outNumsH H (i := 3) (j := 0) (ns := [_]) rfl rfl rfl rfl (by simp) (by simp)).mono ?_); rintro e w5 ⟨rfl, F5, H5⟩; simp only [List.set_cons_zero, List.set_cons_succ] at H5; clear H; have H := H5; clear H5))
            | (go_at_call 102; go_loud (refine (put_token H (i := 2) (j := 3) (q := q) rfl rfl (by omega) HT.out).mono ?_); rintro e w5 ⟨rfl, F5, H5⟩; simp only [List.set_cons_zero, List.set_cons_succ] at H5; clear H; have H := H5; clear H5))
          go_roundw
          case rel =>
            refine ⟨k + 1, F5, by omega, by go_num, Lib.hid (by rw [HA.out, hall.out, q3]; rfl), Lib.hid ?_⟩
            have h := H.out.sub (R' := [rPf F4 (.slice (some x) ps.length c4) fs4 ps, rOut b10 F5 (16 + 16 * k + 16) (headOf q ++ bytesOf q (ps.take k) ++ (encPart q (.token)).1), rB b1 43 [.int .i64 q.kind, .int .i64 q.seq, .int .i64 q.who, .int .i64 q.role, .int .u32 q.token, .int .u64 q.key, .int .i64 q.call.id, .int .i64 q.call.kind, .int .i64 q.call.src, .int .i64 q.call.dst, .int .i64 q.call.car, .int .i64 q.call.state, .int .i64 q.call.owner, .int .i64 q.call.born, .int .i64 q.id, .int .i64 q.car, .int .i64 q.mode, .int .i64 q.filter.kind, .int .i64 q.filter.n]]) (by simp)
            rw [List.append_assoc, ← HB.out, show 16 + 16 * k + 16 = 16 + 16 * (k + 1) by omega] at h
            exact h
          case measure => simp [intOf]; omega
        | key =>
          obtain ⟨rfl, rfl⟩ := hpart
          go_wp2_with (first
            | ((with_reducible apply g_mem); (focus (exact rfl)); (with_reducible apply hpN_box 113 10 H); (focus (exact rfl)); (focus (exact rfl)); (focus (exact rfl)); (focus (exact rfl)); (focus (exact rfl)); intro w5 b10 H5; clear H; have H := outNewH H5; clear H5)
            | ((with_reducible apply g_mem); (focus (exact rfl)); first
      | ((with_reducible apply hpN_box 43 1 H); (focus (exact rfl)); (focus (exact rfl)); (focus (exact rfl)); (focus (exact rfl)); (focus (exact rfl)); intro w5 b1 H5; clear H; have H := H5; clear H5)
      | ((with_reducible apply hpN_box 113 10 H); (focus (exact rfl)); (focus (exact rfl)); (focus (exact rfl)); (focus (exact rfl)); (focus (exact rfl)); intro w5 b10 H5; clear H; have H := H5; clear H5)
      | ((with_reducible apply hpA_load1 tyint H); (focus (exact rfl)); (focus (exact rfl)); (focus (first | (exact rfl) | (simp [Region.wanted]; done) | (simp only [Region.wanted]; go_simp; done))); (focus (repeat (first | exact List.Mem.head _ | apply List.Mem.tail))); (focus ((try simp only [List.getElem?_cons_zero, List.getElem?_cons_succ]); exact rfl)))
      | ((with_reducible apply hpA_load tymsg_Filter H); (focus (exact rfl)); (focus (exact rfl)); (focus (first | (exact rfl) | (simp [Region.wanted]; done) | (simp only [Region.wanted]; go_simp; done))); (focus (repeat (first | exact List.Mem.head _ | apply List.Mem.tail))); (focus ((try simp only [List.drop_zero, List.drop_succ_cons, List.take_succ_cons, List.take_zero]); exact rfl)); (focus (exact rfl)))
      | ((with_reducible apply hpN_bslice Tryz.underlying67 tyint 34 H); (focus (exact rfl)); (focus (exact rfl)); (focus (first | (exact rfl) | (simp [Region.wanted]; done) | (simp only [Region.wanted]; go_simp; done))); (focus (first | decide | (simp; done))); (focus (first | decide | (simp; done))); (focus (first | (go_simp; exact rfl) | exact rfl)); intro w5 b34 H5; clear H; have H := H5; clear H5)
      | ((with_reducible apply hpN_bslice Tryz.underlying67 tyint 39 H); (focus (exact rfl)); (focus (exact rfl)); (focus (first | (exact rfl) | (simp [Region.wanted]; done) | (simp only [Region.wanted]; go_simp; done))); (focus (first | decide | (simp; done))); (focus (first | decide | (simp; done))); (focus (first | (go_simp; exact rfl) | exact rfl)); intro w5 b39 H5; clear H; have H := H5; clear H5)
      | ((with_reducible apply hpA_load tymsg_part H); (focus (exact rfl)); (focus (exact rfl)); (focus (first | (exact rfl) | (simp [Region.wanted]; done) | (simp only [Region.wanted]; go_simp; done))); (focus (repeat (first | exact List.Mem.head _ | apply List.Mem.tail))); (focus ((try simp only [List.drop_zero, List.drop_succ_cons, List.take_succ_cons, List.take_zero]); exact rfl)); (focus (exact rfl)))
      | ((with_reducible apply hpN_alloc tymsg_part 8 H); (focus (exact rfl)); (focus (exact rfl)); (focus (exact rfl)); intro w5 b8 H5; clear H; have H := H5; clear H5)
      | ((with_reducible apply hpA_store tymsg_part H); (focus (exact rfl)); (focus (exact rfl)); (focus (exact rfl)); (focus (exact rfl)); (focus (exact rfl)); (focus (repeat (first | apply Put.head | apply Put.tail))); (focus (first | (simp; done) | (simp [*]; done) | (simp [Value.oneCell']; done))); (focus (first | (simp; done) | (simp [*]; done) | (simp [Value.oneCell']; done))); (focus ((try simp only [spl]); exact rfl)); (focus (exact rfl)); intro w5 H5; clear H; have H := H5; clear H5)
      | ((with_reducible apply hpA_load1 tyfunc_P_pack_Out__P_msg_Request__bool H); (focus (exact rfl)); (focus (exact rfl)); (focus (first | (exact rfl) | (simp [Region.wanted]; done) | (simp only [Region.wanted]; go_simp; done))); (focus (repeat (first | exact List.Mem.head _ | apply List.Mem.tail))); (focus ((try simp only [List.getElem?_cons_zero, List.getElem?_cons_succ]); exact rfl))))
            | (go_at_call 73; (with_reducible refine (isCount _ _).mono ?_); rintro e w5 ⟨rfl, rfl⟩)
            | (go_at_call 74; (with_reducible refine (filterIs _ _).mono ?_); rintro e w5 ⟨rfl, ho⟩; have H5 := Lib.hid (H.out.quiet ho); clear H ho; have H := H5; clear H5)
            | (go_at_call 74; (with_reducible refine (filterIsX _ _ _).mono ?_); rintro e w5 ⟨rfl, ho⟩; have H5 := Lib.hid (H.out.quiet ho); clear H ho; have H := H5; clear H5)
            | (go_at_call 72; (with_reducible refine (partsC _ _).mono ?_); rintro e w5 ⟨v4, rfl, F4, hps, hf, ho⟩; rw [hp] at hps; simp only [Option.getD_some] at hps; obtain ⟨fs4, hps⟩ := hps; obtain ⟨a4, c4, rfl⟩ := PfAt.form (v := v4) hps; have H5 := Lib.hid (H.out.push (rPf F4 _ fs4 _) ho hps hf); clear H hps hf ho; have H := H5; clear H5)
            | (go_at_call 75; first | (go_loud (refine (outNumsH H (i := 2) (j := 0) (ns := [_]) rfl rfl rfl rfl (by simp) (by simp)).mono ?_); rintro e w5 ⟨rfl, F5, H5⟩; simp only [List.set_cons_zero, List.set_cons_succ] at H5; clear H; have H := H5; clear H5) | ((refine (outNumsH H (i := 3) (j := 0) (ns := [_]) rfl rfl rfl rfl (by simp) (by simp)).mono ?_); rintro e w5 ⟨rfl, F5, H5⟩; simp only [List.set_cons_zero, List.set_cons_succ] at H5; clear H; have H := H5; clear H5))
            | (go_at_call 104; go_loud (refine (put_key H (i := 2) (j := 3) (q := q) rfl rfl (by omega) (by simp) HK.out).mono ?_); rintro e w5 ⟨rfl, F5, H5⟩; simp only [List.set_cons_zero, List.set_cons_succ] at H5; clear H; have H := H5; clear H5))
          go_roundw
          case rel =>
            refine ⟨k + 1, F5, by omega, by go_num, Lib.hid (by rw [HA.out, hall.out, q3]; rfl), Lib.hid ?_⟩
            have h := H.out.sub (R' := [rPf F4 (.slice (some x) ps.length c4) fs4 ps, rOut b10 F5 (16 + 16 * k + 16) (headOf q ++ bytesOf q (ps.take k) ++ (encPart q (.key)).1), rB b1 43 [.int .i64 q.kind, .int .i64 q.seq, .int .i64 q.who, .int .i64 q.role, .int .u32 q.token, .int .u64 q.key, .int .i64 q.call.id, .int .i64 q.call.kind, .int .i64 q.call.src, .int .i64 q.call.dst, .int .i64 q.call.car, .int .i64 q.call.state, .int .i64 q.call.owner, .int .i64 q.call.born, .int .i64 q.id, .int .i64 q.car, .int .i64 q.mode, .int .i64 q.filter.kind, .int .i64 q.filter.n]]) (by simp)
            rw [List.append_assoc, ← HB.out, show 16 + 16 * k + 16 = 16 + 16 * (k + 1) by omega] at h
            exact h
          case measure => simp [intOf]; omega
      · cases p with
        | num wd off chk =>
          obtain ⟨_, _, _, bo, bc, bw, rfl, rfl, _⟩ := hpart
          go_wp2_with (first
            | ((with_reducible apply g_mem); (focus (exact rfl)); (with_reducible apply hpN_box 113 10 H); (focus (exact rfl)); (focus (exact rfl)); (focus (exact rfl)); (focus (exact rfl)); (focus (exact rfl)); intro w5 b10 H5; clear H; have H := outNewH H5; clear H5)
            | ((with_reducible apply g_mem); (focus (exact rfl)); first
      | ((with_reducible apply hpN_box 43 1 H); (focus (exact rfl)); (focus (exact rfl)); (focus (exact rfl)); (focus (exact rfl)); (focus (exact rfl)); intro w5 b1 H5; clear H; have H := H5; clear H5)
      | ((with_reducible apply hpN_box 113 10 H); (focus (exact rfl)); (focus (exact rfl)); (focus (exact rfl)); (focus (exact rfl)); (focus (exact rfl)); intro w5 b10 H5; clear H; have H := H5; clear H5)
      | ((with_reducible apply hpA_load1 tyint H); (focus (exact rfl)); (focus (exact rfl)); (focus (first | (exact rfl) | (simp [Region.wanted]; done) | (simp only [Region.wanted]; go_simp; done))); (focus (repeat (first | exact List.Mem.head _ | apply List.Mem.tail))); (focus ((try simp only [List.getElem?_cons_zero, List.getElem?_cons_succ]); exact rfl)))
      | ((with_reducible apply hpA_load tymsg_Filter H); (focus (exact rfl)); (focus (exact rfl)); (focus (first | (exact rfl) | (simp [Region.wanted]; done) | (simp only [Region.wanted]; go_simp; done))); (focus (repeat (first | exact List.Mem.head _ | apply List.Mem.tail))); (focus ((try simp only [List.drop_zero, List.drop_succ_cons, List.take_succ_cons, List.take_zero]); exact rfl)); (focus (exact rfl)))
      | ((with_reducible apply hpN_bslice Tryz.underlying67 tyint 34 H); (focus (exact rfl)); (focus (exact rfl)); (focus (first | (exact rfl) | (simp [Region.wanted]; done) | (simp only [Region.wanted]; go_simp; done))); (focus (first | decide | (simp; done))); (focus (first | decide | (simp; done))); (focus (first | (go_simp; exact rfl) | exact rfl)); intro w5 b34 H5; clear H; have H := H5; clear H5)
      | ((with_reducible apply hpN_bslice Tryz.underlying67 tyint 39 H); (focus (exact rfl)); (focus (exact rfl)); (focus (first | (exact rfl) | (simp [Region.wanted]; done) | (simp only [Region.wanted]; go_simp; done))); (focus (first | decide | (simp; done))); (focus (first | decide | (simp; done))); (focus (first | (go_simp; exact rfl) | exact rfl)); intro w5 b39 H5; clear H; have H := H5; clear H5)
      | ((with_reducible apply hpA_load tymsg_part H); (focus (exact rfl)); (focus (exact rfl)); (focus (first | (exact rfl) | (simp [Region.wanted]; done) | (simp only [Region.wanted]; go_simp; done))); (focus (repeat (first | exact List.Mem.head _ | apply List.Mem.tail))); (focus ((try simp only [List.drop_zero, List.drop_succ_cons, List.take_succ_cons, List.take_zero]); exact rfl)); (focus (exact rfl)))
      | ((with_reducible apply hpN_alloc tymsg_part 8 H); (focus (exact rfl)); (focus (exact rfl)); (focus (exact rfl)); intro w5 b8 H5; clear H; have H := H5; clear H5)
      | ((with_reducible apply hpA_store tymsg_part H); (focus (exact rfl)); (focus (exact rfl)); (focus (exact rfl)); (focus (exact rfl)); (focus (exact rfl)); (focus (repeat (first | apply Put.head | apply Put.tail))); (focus (first | (simp; done) | (simp [*]; done) | (simp [Value.oneCell']; done))); (focus (first | (simp; done) | (simp [*]; done) | (simp [Value.oneCell']; done))); (focus ((try simp only [spl]); exact rfl)); (focus (exact rfl)); intro w5 H5; clear H; have H := H5; clear H5)
      | ((with_reducible apply hpA_load1 tyfunc_P_pack_Out__P_msg_Request__bool H); (focus (exact rfl)); (focus (exact rfl)); (focus (first | (exact rfl) | (simp [Region.wanted]; done) | (simp only [Region.wanted]; go_simp; done))); (focus (repeat (first | exact List.Mem.head _ | apply List.Mem.tail))); (focus ((try simp only [List.getElem?_cons_zero, List.getElem?_cons_succ]); exact rfl))))
            | (go_at_call 73; (with_reducible refine (isCount _ _).mono ?_); rintro e w5 ⟨rfl, rfl⟩)
            | (go_at_call 74; (with_reducible refine (filterIs _ _).mono ?_); rintro e w5 ⟨rfl, ho⟩; have H5 := Lib.hid (H.out.quiet ho); clear H ho; have H := H5; clear H5)
            | (go_at_call 74; (with_reducible refine (filterIsX _ _ _).mono ?_); rintro e w5 ⟨rfl, ho⟩; have H5 := Lib.hid (H.out.quiet ho); clear H ho; have H := H5; clear H5)
            | (go_at_call 72; (with_reducible refine (partsC _ _).mono ?_); rintro e w5 ⟨v4, rfl, F4, hps, hf, ho⟩; rw [hp] at hps; simp only [Option.getD_some] at hps; obtain ⟨fs4, hps⟩ := hps; obtain ⟨a4, c4, rfl⟩ := PfAt.form (v := v4) hps; have H5 := Lib.hid (H.out.push (rPf F4 _ fs4 _) ho hps hf); clear H hps hf ho; have H := H5; clear H5)
            | (go_at_call 75; first | (go_loud (refine (outNumsH H (i := 2) (j := 0) (ns := [_]) rfl rfl rfl rfl (by simp) (by simp)).mono ?_); rintro e w5 ⟨rfl, F5, H5⟩; simp only [List.set_cons_zero, List.set_cons_succ] at H5; clear H; have H := H5; clear H5) | ((refine (outNumsH H (i := 3) (j := 0) (ns := [_]) rfl rfl rfl rfl (by simp) (by simp)).mono ?_); rintro e w5 ⟨rfl, F5, H5⟩; simp only [List.set_cons_zero, List.set_cons_succ] at H5; clear H; have H := H5; clear H5))
            | (go_at_call 100; go_loud (refine (put_num H (i := 2) (j := 3) (q := q) rfl rfl (by omega) (num_of H (k := 1) rfl HF.out HPK.out).1 (num_of H (k := 1) rfl HF.out HPK.out).2.2.2.2.2.2.2.1 (num_of H (k := 1) rfl HF.out HPK.out).2.2.2.2.2.2.2.2.1 (num_of H (k := 1) rfl HF.out HPK.out).2.2.2.2.2.2.2.2.2).mono ?_); rintro e w5 ⟨rfl, F5, H5⟩; simp only [List.set_cons_zero, List.set_cons_succ] at H5; clear H; have H := H5; clear H5))
          go_ret2
          exact ⟨by rw [HW.out, HN.out q3]; rfl, H.out.off⟩
        | token =>
          obtain ⟨rfl, rfl⟩ := hpart
          go_wp2_with (first
            | ((with_reducible apply g_mem); (focus (exact rfl)); (with_reducible apply hpN_box 113 10 H); (focus (exact rfl)); (focus (exact rfl)); (focus (exact rfl)); (focus (exact rfl)); (focus (exact rfl)); intro w5 b10 H5; clear H; have H := outNewH H5; clear H5)
            | ((with_reducible apply g_mem); (focus (exact rfl)); first
      | ((with_reducible apply hpN_box 43 1 H); (focus (exact rfl)); (focus (exact rfl)); (focus (exact rfl)); (focus (exact rfl)); (focus (exact rfl)); intro w5 b1 H5; clear H; have H := H5; clear H5)
      | ((with_reducible apply hpN_box 113 10 H); (focus (exact rfl)); (focus (exact rfl)); (focus (exact rfl)); (focus (exact rfl)); (focus (exact rfl)); intro w5 b10 H5; clear H; have H := H5; clear H5)
      | ((with_reducible apply hpA_load1 tyint H); (focus (exact rfl)); (focus (exact rfl)); (focus (first | (exact rfl) | (simp [Region.wanted]; done) | (simp only [Region.wanted]; go_simp; done))); (focus (repeat (first | exact List.Mem.head _ | apply List.Mem.tail))); (focus ((try simp only [List.getElem?_cons_zero, List.getElem?_cons_succ]); exact rfl)))
      | ((with_reducible apply hpA_load tymsg_Filter H); (focus (exact rfl)); (focus (exact rfl)); (focus (first | (exact rfl) | (simp [Region.wanted]; done) | (simp only [Region.wanted]; go_simp; done))); (focus (repeat (first | exact List.Mem.head _ | apply List.Mem.tail))); (focus ((try simp only [List.drop_zero, List.drop_succ_cons, List.take_succ_cons, List.take_zero]); exact rfl)); (focus (exact rfl)))
      | ((with_reducible apply hpN_bslice Tryz.underlying67 tyint 34 H); (focus (exact rfl)); (focus (exact rfl)); (focus (first | (exact rfl) | (simp [Region.wanted]; done) | (simp only [Region.wanted]; go_simp; done))); (focus (first | decide | (simp; done))); (focus (first | decide | (simp; done))); (focus (first | (go_simp; exact rfl) | exact rfl)); intro w5 b34 H5; clear H; have H := H5; clear H5)
      | ((with_reducible apply hpN_bslice Tryz.underlying67 tyint 39 H); (focus (exact rfl)); (focus (exact rfl)); (focus (first | (exact rfl) | (simp [Region.wanted]; done) | (simp only [Region.wanted]; go_simp; done))); (focus (first | decide | (simp; done))); (focus (first | decide | (simp; done))); (focus (first | (go_simp; exact rfl) | exact rfl)); intro w5 b39 H5; clear H; have H := H5; clear H5)
      | ((with_reducible apply hpA_load tymsg_part H); (focus (exact rfl)); (focus (exact rfl)); (focus (first | (exact rfl) | (simp [Region.wanted]; done) | (simp only [Region.wanted]; go_simp; done))); (focus (repeat (first | exact List.Mem.head _ | apply List.Mem.tail))); (focus ((try simp only [List.drop_zero, List.drop_succ_cons, List.take_succ_cons, List.take_zero]); exact rfl)); (focus (exact rfl)))
      | ((with_reducible apply hpN_alloc tymsg_part 8 H); (focus (exact rfl)); (focus (exact rfl)); (focus (exact rfl)); intro w5 b8 H5; clear H; have H := H5; clear H5)
      | ((with_reducible apply hpA_store tymsg_part H); (focus (exact rfl)); (focus (exact rfl)); (focus (exact rfl)); (focus (exact rfl)); (focus (exact rfl)); (focus (repeat (first | apply Put.head | apply Put.tail))); (focus (first | (simp; done) | (simp [*]; done) | (simp [Value.oneCell']; done))); (focus (first | (simp; done) | (simp [*]; done) | (simp [Value.oneCell']; done))); (focus ((try simp only [spl]); exact rfl)); (focus (exact rfl)); intro w5 H5; clear H; have H := H5; clear H5)
      | ((with_reducible apply hpA_load1 tyfunc_P_pack_Out__P_msg_Request__bool H); (focus (exact rfl)); (focus (exact rfl)); (focus (first | (exact rfl) | (simp [Region.wanted]; done) | (simp only [Region.wanted]; go_simp; done))); (focus (repeat (first | exact List.Mem.head _ | apply List.Mem.tail))); (focus ((try simp only [List.getElem?_cons_zero, List.getElem?_cons_succ]); exact rfl))))
            | (go_at_call 73; (with_reducible refine (isCount _ _).mono ?_); rintro e w5 ⟨rfl, rfl⟩)
            | (go_at_call 74; (with_reducible refine (filterIs _ _).mono ?_); rintro e w5 ⟨rfl, ho⟩; have H5 := Lib.hid (H.out.quiet ho); clear H ho; have H := H5; clear H5)
            | (go_at_call 74; (with_reducible refine (filterIsX _ _ _).mono ?_); rintro e w5 ⟨rfl, ho⟩; have H5 := Lib.hid (H.out.quiet ho); clear H ho; have H := H5; clear H5)
            | (go_at_call 72; (with_reducible refine (partsC _ _).mono ?_); rintro e w5 ⟨v4, rfl, F4, hps, hf, ho⟩; rw [hp] at hps; simp only [Option.getD_some] at hps; obtain ⟨fs4, hps⟩ := hps; obtain ⟨a4, c4, rfl⟩ := PfAt.form (v := v4) hps; have H5 := Lib.hid (H.out.push (rPf F4 _ fs4 _) ho hps hf); clear H hps hf ho; have H := H5; clear H5)
            | (go_at_call 75; first | (go_loud (refine (outNumsH H (i := 2) (j := 0) (ns := [_]) rfl rfl rfl rfl (by simp) (by simp)).mono ?_); rintro e w5 ⟨rfl, F5, H5⟩; simp only [List.set_cons_zero, List.set_cons_succ] at H5; clear H; have H := H5; clear H5) | ((refine (outNumsH H (i := 3) (j := 0) (ns := [_]) rfl rfl rfl rfl (by simp) (by simp)).mono ?_); rintro e w5 ⟨rfl, F5, H5⟩; simp only [List.set_cons_zero, List.set_cons_succ] at H5; clear H; have H := H5; clear H5))
            | (go_at_call 102; go_loud (refine (put_token H (i := 2) (j := 3) (q := q) rfl rfl (by omega) HT.out).mono ?_); rintro e w5 ⟨rfl, F5, H5⟩; simp only [List.set_cons_zero, List.set_cons_succ] at H5; clear H; have H := H5; clear H5))
          go_ret2
          exact ⟨by rw [HW.out, HN.out q3]; rfl, H.out.off⟩
        | key =>
          obtain ⟨rfl, rfl⟩ := hpart
          go_wp2_with (first
            | ((with_reducible apply g_mem); (focus (exact rfl)); (with_reducible apply hpN_box 113 10 H); (focus (exact rfl)); (focus (exact rfl)); (focus (exact rfl)); (focus (exact rfl)); (focus (exact rfl)); intro w5 b10 H5; clear H; have H := outNewH H5; clear H5)
            | ((with_reducible apply g_mem); (focus (exact rfl)); first
      | ((with_reducible apply hpN_box 43 1 H); (focus (exact rfl)); (focus (exact rfl)); (focus (exact rfl)); (focus (exact rfl)); (focus (exact rfl)); intro w5 b1 H5; clear H; have H := H5; clear H5)
      | ((with_reducible apply hpN_box 113 10 H); (focus (exact rfl)); (focus (exact rfl)); (focus (exact rfl)); (focus (exact rfl)); (focus (exact rfl)); intro w5 b10 H5; clear H; have H := H5; clear H5)
      | ((with_reducible apply hpA_load1 tyint H); (focus (exact rfl)); (focus (exact rfl)); (focus (first | (exact rfl) | (simp [Region.wanted]; done) | (simp only [Region.wanted]; go_simp; done))); (focus (repeat (first | exact List.Mem.head _ | apply List.Mem.tail))); (focus ((try simp only [List.getElem?_cons_zero, List.getElem?_cons_succ]); exact rfl)))
      | ((with_reducible apply hpA_load tymsg_Filter H); (focus (exact rfl)); (focus (exact rfl)); (focus (first | (exact rfl) | (simp [Region.wanted]; done) | (simp only [Region.wanted]; go_simp; done))); (focus (repeat (first | exact List.Mem.head _ | apply List.Mem.tail))); (focus ((try simp only [List.drop_zero, List.drop_succ_cons, List.take_succ_cons, List.take_zero]); exact rfl)); (focus (exact rfl)))
      | ((with_reducible apply hpN_bslice Tryz.underlying67 tyint 34 H); (focus (exact rfl)); (focus (exact rfl)); (focus (first | (exact rfl) | (simp [Region.wanted]; done) | (simp only [Region.wanted]; go_simp; done))); (focus (first | decide | (simp; done))); (focus (first | decide | (simp; done))); (focus (first | (go_simp; exact rfl) | exact rfl)); intro w5 b34 H5; clear H; have H := H5; clear H5)
      | ((with_reducible apply hpN_bslice Tryz.underlying67 tyint 39 H); (focus (exact rfl)); (focus (exact rfl)); (focus (first | (exact rfl) | (simp [Region.wanted]; done) | (simp only [Region.wanted]; go_simp; done))); (focus (first | decide | (simp; done))); (focus (first | decide | (simp; done))); (focus (first | (go_simp; exact rfl) | exact rfl)); intro w5 b39 H5; clear H; have H := H5; clear H5)
      | ((with_reducible apply hpA_load tymsg_part H); (focus (exact rfl)); (focus (exact rfl)); (focus (first | (exact rfl) | (simp [Region.wanted]; done) | (simp only [Region.wanted]; go_simp; done))); (focus (repeat (first | exact List.Mem.head _ | apply List.Mem.tail))); (focus ((try simp only [List.drop_zero, List.drop_succ_cons, List.take_succ_cons, List.take_zero]); exact rfl)); (focus (exact rfl)))
      | ((with_reducible apply hpN_alloc tymsg_part 8 H); (focus (exact rfl)); (focus (exact rfl)); (focus (exact rfl)); intro w5 b8 H5; clear H; have H := H5; clear H5)
      | ((with_reducible apply hpA_store tymsg_part H); (focus (exact rfl)); (focus (exact rfl)); (focus (exact rfl)); (focus (exact rfl)); (focus (exact rfl)); (focus (repeat (first | apply Put.head | apply Put.tail))); (focus (first | (simp; done) | (simp [*]; done) | (simp [Value.oneCell']; done))); (focus (first | (simp; done) | (simp [*]; done) | (simp [Value.oneCell']; done))); (focus ((try simp only [spl]); exact rfl)); (focus (exact rfl)); intro w5 H5; clear H; have H := H5; clear H5)
      | ((with_reducible apply hpA_load1 tyfunc_P_pack_Out__P_msg_Request__bool H); (focus (exact rfl)); (focus (exact rfl)); (focus (first | (exact rfl) | (simp [Region.wanted]; done) | (simp only [Region.wanted]; go_simp; done))); (focus (repeat (first | exact List.Mem.head _ | apply List.Mem.tail))); (focus ((try simp only [List.getElem?_cons_zero, List.getElem?_cons_succ]); exact rfl))))
            | (go_at_call 73; (with_reducible refine (isCount _ _).mono ?_); rintro e w5 ⟨rfl, rfl⟩)
            | (go_at_call 74; (with_reducible refine (filterIs _ _).mono ?_); rintro e w5 ⟨rfl, ho⟩; have H5 := Lib.hid (H.out.quiet ho); clear H ho; have H := H5; clear H5)
            | (go_at_call 74; (with_reducible refine (filterIsX _ _ _).mono ?_); rintro e w5 ⟨rfl, ho⟩; have H5 := Lib.hid (H.out.quiet ho); clear H ho; have H := H5; clear H5)
            | (go_at_call 72; (with_reducible refine (partsC _ _).mono ?_); rintro e w5 ⟨v4, rfl, F4, hps, hf, ho⟩; rw [hp] at hps; simp only [Option.getD_some] at hps; obtain ⟨fs4, hps⟩ := hps; obtain ⟨a4, c4, rfl⟩ := PfAt.form (v := v4) hps; have H5 := Lib.hid (H.out.push (rPf F4 _ fs4 _) ho hps hf); clear H hps hf ho; have H := H5; clear H5)
            | (go_at_call 75; first | (go_loud (refine (outNumsH H (i := 2) (j := 0) (ns := [_]) rfl rfl rfl rfl (by simp) (by simp)).mono ?_); rintro e w5 ⟨rfl, F5, H5⟩; simp only [List.set_cons_zero, List.set_cons_succ] at H5; clear H; have H := H5; clear H5) | ((refine (outNumsH H (i := 3) (j := 0) (ns := [_]) rfl rfl rfl rfl (by simp) (by simp)).mono ?_); rintro e w5 ⟨rfl, F5, H5⟩; simp only [List.set_cons_zero, List.set_cons_succ] at H5; clear H; have H := H5; clear H5))
            | (go_at_call 104; go_loud (refine (put_key H (i := 2) (j := 3) (q := q) rfl rfl (by omega) (by simp) HK.out).mono ?_); rintro e w5 ⟨rfl, F5, H5⟩; simp only [List.set_cons_zero, List.set_cons_succ] at H5; clear H; have H := H5; clear H5))
          go_ret2
          exact ⟨by rw [HW.out, HN.out q3]; rfl, H.out.off⟩
    · obtain rfl : k = ps.length := by omega
      have HT1 := Lib.hid (List.take_length (l := ps))
      go_wp2_with (first
        | ((with_reducible apply g_mem); (focus (exact rfl)); (with_reducible apply hpN_box 113 10 H); (focus (exact rfl)); (focus (exact rfl)); (focus (exact rfl)); (focus (exact rfl)); (focus (exact rfl)); intro w5 b10 H5; clear H; have H := outNewH H5; clear H5)
        | ((with_reducible apply g_mem); (focus (exact rfl)); first
      | ((with_reducible apply hpN_box 43 1 H); (focus (exact rfl)); (focus (exact rfl)); (focus (exact rfl)); (focus (exact rfl)); (focus (exact rfl)); intro w5 b1 H5; clear H; have H := H5; clear H5)
      | ((with_reducible apply hpN_box 113 10 H); (focus (exact rfl)); (focus (exact rfl)); (focus (exact rfl)); (focus (exact rfl)); (focus (exact rfl)); intro w5 b10 H5; clear H; have H := H5; clear H5)
      | ((with_reducible apply hpA_load1 tyint H); (focus (exact rfl)); (focus (exact rfl)); (focus (first | (exact rfl) | (simp [Region.wanted]; done) | (simp only [Region.wanted]; go_simp; done))); (focus (repeat (first | exact List.Mem.head _ | apply List.Mem.tail))); (focus ((try simp only [List.getElem?_cons_zero, List.getElem?_cons_succ]); exact rfl)))
      | ((with_reducible apply hpA_load tymsg_Filter H); (focus (exact rfl)); (focus (exact rfl)); (focus (first | (exact rfl) | (simp [Region.wanted]; done) | (simp only [Region.wanted]; go_simp; done))); (focus (repeat (first | exact List.Mem.head _ | apply List.Mem.tail))); (focus ((try simp only [List.drop_zero, List.drop_succ_cons, List.take_succ_cons, List.take_zero]); exact rfl)); (focus (exact rfl)))
      | ((with_reducible apply hpN_bslice Tryz.underlying67 tyint 34 H); (focus (exact rfl)); (focus (exact rfl)); (focus (first | (exact rfl) | (simp [Region.wanted]; done) | (simp only [Region.wanted]; go_simp; done))); (focus (first | decide | (simp; done))); (focus (first | decide | (simp; done))); (focus (first | (go_simp; exact rfl) | exact rfl)); intro w5 b34 H5; clear H; have H := H5; clear H5)
      | ((with_reducible apply hpN_bslice Tryz.underlying67 tyint 39 H); (focus (exact rfl)); (focus (exact rfl)); (focus (first | (exact rfl) | (simp [Region.wanted]; done) | (simp only [Region.wanted]; go_simp; done))); (focus (first | decide | (simp; done))); (focus (first | decide | (simp; done))); (focus (first | (go_simp; exact rfl) | exact rfl)); intro w5 b39 H5; clear H; have H := H5; clear H5)
      | ((with_reducible apply hpA_load tymsg_part H); (focus (exact rfl)); (focus (exact rfl)); (focus (first | (exact rfl) | (simp [Region.wanted]; done) | (simp only [Region.wanted]; go_simp; done))); (focus (repeat (first | exact List.Mem.head _ | apply List.Mem.tail))); (focus ((try simp only [List.drop_zero, List.drop_succ_cons, List.take_succ_cons, List.take_zero]); exact rfl)); (focus (exact rfl)))
      | ((with_reducible apply hpN_alloc tymsg_part 8 H); (focus (exact rfl)); (focus (exact rfl)); (focus (exact rfl)); intro w5 b8 H5; clear H; have H := H5; clear H5)
      | ((with_reducible apply hpA_store tymsg_part H); (focus (exact rfl)); (focus (exact rfl)); (focus (exact rfl)); (focus (exact rfl)); (focus (exact rfl)); (focus (repeat (first | apply Put.head | apply Put.tail))); (focus (first | (simp; done) | (simp [*]; done) | (simp [Value.oneCell']; done))); (focus (first | (simp; done) | (simp [*]; done) | (simp [Value.oneCell']; done))); (focus ((try simp only [spl]); exact rfl)); (focus (exact rfl)); intro w5 H5; clear H; have H := H5; clear H5)
      | ((with_reducible apply hpA_load1 tyfunc_P_pack_Out__P_msg_Request__bool H); (focus (exact rfl)); (focus (exact rfl)); (focus (first | (exact rfl) | (simp [Region.wanted]; done) | (simp only [Region.wanted]; go_simp; done))); (focus (repeat (first | exact List.Mem.head _ | apply List.Mem.tail))); (focus ((try simp only [List.getElem?_cons_zero, List.getElem?_cons_succ]); exact rfl))))
        | (go_at_call 73; (with_reducible refine (isCount _ _).mono ?_); rintro e w5 ⟨rfl, rfl⟩)
        | (go_at_call 74; (with_reducible refine (filterIs _ _).mono ?_); rintro e w5 ⟨rfl, ho⟩; have H5 := Lib.hid (H.out.quiet ho); clear H ho; have H := H5; clear H5)
        | (go_at_call 74; (with_reducible refine (filterIsX _ _ _).mono ?_); rintro e w5 ⟨rfl, ho⟩; have H5 := Lib.hid (H.out.quiet ho); clear H ho; have H := H5; clear H5)
        | (go_at_call 72; (with_reducible refine (partsC _ _).mono ?_); rintro e w5 ⟨v4, rfl, F4, hps, hf, ho⟩; rw [hp] at hps; simp only [Option.getD_some] at hps; obtain ⟨fs4, hps⟩ := hps; obtain ⟨a4, c4, rfl⟩ := PfAt.form (v := v4) hps; have H5 := Lib.hid (H.out.push (rPf F4 _ fs4 _) ho hps hf); clear H hps hf ho; have H := H5; clear H5)
        | (go_at_call 75; first | (go_loud (refine (outNumsH H (i := 2) (j := 0) (ns := [_]) rfl rfl rfl rfl (by simp) (by simp)).mono ?_); rintro e w5 ⟨rfl, F5, H5⟩; simp only [List.set_cons_zero, List.set_cons_succ] at H5; clear H; have H := H5; clear H5) | ((refine (outNumsH H (i := 3) (j := 0) (ns := [_]) rfl rfl rfl rfl (by simp) (by simp)).mono ?_); rintro e w5 ⟨rfl, F5, H5⟩; simp only [List.set_cons_zero, List.set_cons_succ] at H5; clear H; have H := H5; clear H5))
        | (go_at_call 48; (refine (outStringH H (i := 1) rfl).mono ?_); rintro e w5 ⟨rfl, rfl⟩))
      go_ret2
      refine ⟨?_, H.out.off⟩
      have ha := hall.out
      rw [HT1.out] at ha
      rw [HW.out, if_pos ha]
      simp only [HT1.out]
      rfl
theorem writeC (q : ReqV) (hq : okReq q) (w : World) : Calls Tryz.prog 44 #[.agg #[.int .i64 q.kind, .int .i64 q.seq, .int .i64 q.who, .int .i64 q.role, .int .u32 q.token, .int .u64 q.key, .int .i64 q.call.id, .int .i64 q.call.kind, .int .i64 q.call.src, .int .i64 q.call.dst, .int .i64 q.call.car, .int .i64 q.call.state, .int .i64 q.call.owner, .int .i64 q.call.born, .int .i64 q.id, .int .i64 q.car, .int .i64 q.mode, .int .i64 q.filter.kind, .int .i64 q.filter.n]] w fun e w' => e = .returned (.tuple #[.string (writeV q).1, .int .i64 (writeV q).2]) ∧ Off [] w w' := by
  rcases hp : partsV q.kind with _ | ps
  · exact write_none q w hp
  · rcases Bool.eq_false_or_eq_true (!isCountV q.seq || !isFilterV q.filter) with hb | hb
    · exact write_not q w ps hp hb
    · simp only [Bool.or_eq_false_iff, Bool.not_eq_false'] at hb
      exact write_yes q hq w ps hp hb.1 hb.2
end Go.Proofs.YthflkhalipkdgaaGreat.Ms
