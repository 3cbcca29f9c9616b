/- Layer 14: a request's bytes: what is written ahead of the parts. -/
import Derived.Test.YthflkhalipkdgaaGreatProg
import Derived.Below
import Derived.WalkKit
import Derived.KernelRfl
import Derived.RowKit3
import Derived.Deep.LoopGhost
import Derived.Deep.QuietTactic
import Derived.BigQuiet
import Derived.WideLaws
import Derived.Deep.DeepCutAuto
import Derived.Deep.CutBlock
import Derived.Lib.Hide
import Derived.Laws.BitsLemmas
import Derived.Laws.Bits64
import Derived.Laws.BitsAllLaws
import Derived.IntWalk
import Derived.Outline
import Derived.WalkSpells
import Derived.Test.YthflkhalipkdgaaGreatGA
import Derived.Test.YthflkhalipkdgaaGreatPq
namespace Go.Proofs.YthflkhalipkdgaaGreat.Ms
set_option maxRecDepth 20000
set_option linter.unusedVariables false
set_option linter.unusedSimpArgs false
open Go.RowKit Go.Proofs.YthflkhalipkdgaaGreat.Mem Go.Proofs.YthflkhalipkdgaaGreat.Pk Go.Proofs.YthflkhalipkdgaaGreat.Ca

/-- parts in a row, with their functions -/
def PfAt (w : World) (F : List Nat) (v : Value) (fs : List (Value × Value)) (ps : List Part) : Prop :=
  fs.length = ps.length ∧ RowsAt w v 2 (fs.map fun f => [f.1, f.2]) ∧ (∀ x n c, v = .slice (some x) n c → x.block ∈ F) ∧ ∀ (i : Nat) f p, fs[i]? = some f → ps[i]? = some p → PartF w F f.1 f.2 p
theorem PfAt.same {w w' : World} {F : List Nat} {v : Value} {fs : List (Value × Value)} {ps : List Part} (h : PfAt w F v fs ps) (hs : ∀ k ∈ F, w'.heap[k]? = w.heap[k]?) : PfAt w' F v fs ps := by
  obtain ⟨h1, h2, h3, h4⟩ := h
  refine ⟨h1, ?_, h3, fun i f p hf hp => (h4 i f p hf hp).same hs⟩
  rcases h2 with h2 | ⟨x, c, rfl, hc⟩
  · exact .inl h2
  · refine .inr ⟨x, c, rfl, fun i hi j u hu => ?_⟩
    have hb : ((x.add (i * 2)).add j).block = x.block := by rw [add_block, add_block]
    rw [cell_same (w := w) (w' := w') (by rw [hb]; exact hs _ (h3 _ _ _ rfl))]
    exact hc i hi j u hu
def rPf (F : List Nat) (v : Value) (fs : List (Value × Value)) (ps : List Part) : Res := ⟨F, fun w => PfAt w F v fs ps, fun _ _ hs h => h.same hs, false⟩
theorem PfAt.form {w : World} {F : List Nat} {v : Value} {fs : List (Value × Value)} {ps : List Part} (h : PfAt w F v fs ps) : ∃ a c, v = .slice a ps.length c := by
  rcases h.2.1 with ⟨rfl, h0⟩ | ⟨x, c, rfl, _⟩
  · have : fs = [] := by simpa using h0
    have := h.1
    exact ⟨none, 0, by rw [← this]; simp [*]⟩
  · exact ⟨some x, c, by rw [List.length_map, h.1]⟩
theorem PfAt.cells {w : World} {F : List Nat} {a : Option Addr} {n c : Nat} {fs : List (Value × Value)} {ps : List Part} (h : PfAt w F (.slice a n c) fs ps) (k : Nat) (hk : k < ps.length) :
    ∃ x fp fg, a = some x ∧ fs[k]? = some (fp, fg) ∧ CellsAt w (x.add (k * 2)) [fp, fg] ∧ PartF w F fp fg ps[k] := by
  have hkf : k < fs.length := by rw [h.1]; exact hk
  rcases h.2.1 with ⟨_, h0⟩ | ⟨x, c', e, hc⟩
  · have : fs = [] := by simpa using h0
    rw [this] at hkf
    simp at hkf
  · injection e with e1 _ _
    have h1 := hc k (by simpa using hkf)
    rw [List.getElem_map] at h1
    exact ⟨x, fs[k].1, fs[k].2, e1, by simp [hkf], h1, h.2.2.2 k fs[k] ps[k] (by simp [hkf]) (by simp [hk])⟩
section
variable {S : List Nat} {w0 w : World} {R : List Res}
theorem num_of {F : List Nat} {v : Value} {fs : List (Value × Value)} {ps : List Part} {n k : Nat} (H : Hid (Hp S w0 w R)) (hk : R[k]? = some (rPf F v fs ps)) {bo bc bw : Nat} {fg : Value} {wd off : Nat} {chk : Chk}
    (hfs : fs[n]? = some (.func (.func 100) #[] #[.pointer (some ⟨bo, 0, none⟩), .pointer (some ⟨bc, 0, none⟩), .pointer (some ⟨bw, 0, none⟩)], fg)) (hps : ps[n]? = some (.num wd off chk)) :
    isOff off = true ∧ wide wd = true ∧ wd ≤ 4 ∧ fg = .func (.func 101) #[] #[.pointer (some ⟨bw, 0, none⟩), .pointer (some ⟨bo, 0, none⟩)] ∧ bo ∈ F ∧ bc ∈ F ∧ bw ∈ F ∧ Blk w bo #[.func (.func (offFn off)) #[] #[]] 138 ∧ Blk w bc #[.func (.func chk.fn) #[] #[]] 110 ∧ Blk w bw #[.int .i64 wd] 3 := by
  have h : PfAt w F v fs ps := H.out.at k hk
  obtain ⟨h0, h1, h2, bo', bc', bw', e1, e2, m1, m2, m3, k1, k2, k3⟩ := h.2.2.2 n _ _ hfs hps
  simp only [Value.func.injEq, true_and, Array.mk.injEq, List.cons.injEq, Value.pointer.injEq, Option.some.injEq, Addr.mk.injEq, and_true] at e1
  obtain ⟨rfl, rfl, rfl⟩ : bo = bo' ∧ bc = bc' ∧ bw = bw' := by simpa using e1
  exact ⟨h0, h1, h2, e2, m1, m2, m3, k1, k2, k3⟩
end
/-- a request's bytes -/
def bytesOf (q : ReqV) (ps : List Part) : List Nat := (ps.map fun p => (encPart q p).1).flatten
def headOf (q : ReqV) : List Nat := (encs 1 [q.kind]).1 ++ (encs 4 [q.seq]).1
def writeV (q : ReqV) : ByteArray × Int :=
  match partsV q.kind with
  | none => (⟨#[]⟩, 1)
  | some ps => if (!isCountV q.seq || !isFilterV q.filter) = true then (⟨#[]⟩, 1) else if (ps.all fun p => (encPart q p).2) = true then (str (headOf q ++ bytesOf q ps), 0) else (⟨#[]⟩, 1)
def okReq (q : ReqV) : Prop := (0 ≤ q.token ∧ q.token ≤ 4294967295) ∧ (0 ≤ q.key ∧ q.key ≤ 18446744073709551615)
theorem parts_few (kind : Int) (ps : List Part) (h : partsV kind = some ps) : ps.length ≤ 5 := by
  unfold partsV at h
  repeat' (split at h; (first | (injection h with h; subst h; decide) | skip))
  cases h
theorem bytes_snoc (q : ReqV) (ps : List Part) (k : Nat) (hk : k < ps.length) : bytesOf q (ps.take (k + 1)) = bytesOf q (ps.take k) ++ (encPart q ps[k]).1 := by
  unfold bytesOf
  rw [List.take_succ_eq_append_getElem hk, List.map_append, List.flatten_append]
  simp only [List.map_cons, List.map_nil, List.flatten_cons, List.flatten_nil, List.append_nil]
theorem all_snoc (q : ReqV) (ps : List Part) (k : Nat) (hk : k < ps.length) : ((ps.take (k + 1)).all fun p => (encPart q p).2) = (((ps.take k).all fun p => (encPart q p).2) && (encPart q ps[k]).2) := by
  rw [List.take_succ_eq_append_getElem hk, List.all_append]
  simp only [List.all_cons, List.all_nil, Bool.and_true]
theorem all_not (q : ReqV) (ps : List Part) (k : Nat) (hk : k < ps.length) (h : (encPart q ps[k]).2 = false) : (ps.all fun p => (encPart q p).2) = false := by
  rw [List.all_eq_false]
  exact ⟨ps[k], List.getElem_mem hk, by simp [h]⟩
set_option maxHeartbeats 16000000 in
theorem write_none (q : ReqV) (w : World) (hp : partsV q.kind = none) : Calls Tryz.prog 44 #[.agg #[.int .i64 q.kind, .int .i64 q.seq, .int .i64 q.who, .int .i64 q.role, .int .u32 q.token, .int .u64 q.key, .int .i64 q.call.id, .int .i64 q.call.kind, .int .i64 q.call.src, .int .i64 q.call.dst, .int .i64 q.call.car, .int .i64 q.call.state, .int .i64 q.call.owner, .int .i64 q.call.born, .int .i64 q.id, .int .i64 q.car, .int .i64 q.mode, .int .i64 q.filter.kind, .int .i64 q.filter.n]] w fun e w' => e = .returned (.tuple #[.string (writeV q).1, .int .i64 (writeV q).2]) ∧ Off [] w w' := by
  have H := Lib.hid (Hp.start [] w)
  have eW : writeV q = (⟨#[]⟩, 1) := by unfold writeV; rw [hp]
  have HW := Lib.hid eW
  clear eW
  go_enter Tryz.func44, Tryz.ntmps44
  go_wp2_with (first
    | ((with_reducible apply g_mem); (focus (exact rfl)); (with_reducible apply hpN_box 113 10 H); (focus (exact rfl)); (focus (exact rfl)); (focus (exact rfl)); (focus (exact rfl)); (focus (exact rfl)); intro w5 b10 H5; clear H; have H := outNewH H5; clear H5)
    | ((with_reducible apply g_mem); (focus (exact rfl)); first
      | ((with_reducible apply hpN_box 43 1 H); (focus (exact rfl)); (focus (exact rfl)); (focus (exact rfl)); (focus (exact rfl)); (focus (exact rfl)); intro w5 b1 H5; clear H; have H := H5; clear H5)
      | ((with_reducible apply hpN_box 113 10 H); (focus (exact rfl)); (focus (exact rfl)); (focus (exact rfl)); (focus (exact rfl)); (focus (exact rfl)); intro w5 b10 H5; clear H; have H := H5; clear H5)
      | ((with_reducible apply hpA_load1 tyint H); (focus (exact rfl)); (focus (exact rfl)); (focus (first | (exact rfl) | (simp [Region.wanted]; done) | (simp only [Region.wanted]; go_simp; done))); (focus (repeat (first | exact List.Mem.head _ | apply List.Mem.tail))); (focus ((try simp only [List.getElem?_cons_zero, List.getElem?_cons_succ]); exact rfl)))
      | ((with_reducible apply hpA_load tymsg_Filter H); (focus (exact rfl)); (focus (exact rfl)); (focus (first | (exact rfl) | (simp [Region.wanted]; done) | (simp only [Region.wanted]; go_simp; done))); (focus (repeat (first | exact List.Mem.head _ | apply List.Mem.tail))); (focus ((try simp only [List.drop_zero, List.drop_succ_cons, List.take_succ_cons, List.take_zero]); exact rfl)); (focus (exact rfl)))
      | ((with_reducible apply hpN_bslice Tryz.underlying67 tyint 34 H); (focus (exact rfl)); (focus (exact rfl)); (focus (first | (exact rfl) | (simp [Region.wanted]; done) | (simp only [Region.wanted]; go_simp; done))); (focus (first | decide | (simp; done))); (focus (first | decide | (simp; done))); (focus (first | (go_simp; exact rfl) | exact rfl)); intro w5 b34 H5; clear H; have H := H5; clear H5)
      | ((with_reducible apply hpN_bslice Tryz.underlying67 tyint 39 H); (focus (exact rfl)); (focus (exact rfl)); (focus (first | (exact rfl) | (simp [Region.wanted]; done) | (simp only [Region.wanted]; go_simp; done))); (focus (first | decide | (simp; done))); (focus (first | decide | (simp; done))); (focus (first | (go_simp; exact rfl) | exact rfl)); intro w5 b39 H5; clear H; have H := H5; clear H5)
      | ((with_reducible apply hpA_load tymsg_part H); (focus (exact rfl)); (focus (exact rfl)); (focus (first | (exact rfl) | (simp [Region.wanted]; done) | (simp only [Region.wanted]; go_simp; done))); (focus (repeat (first | exact List.Mem.head _ | apply List.Mem.tail))); (focus ((try simp only [List.drop_zero, List.drop_succ_cons, List.take_succ_cons, List.take_zero]); exact rfl)); (focus (exact rfl)))
      | ((with_reducible apply hpN_alloc tymsg_part 8 H); (focus (exact rfl)); (focus (exact rfl)); (focus (exact rfl)); intro w5 b8 H5; clear H; have H := H5; clear H5)
      | ((with_reducible apply hpA_store tymsg_part H); (focus (exact rfl)); (focus (exact rfl)); (focus (exact rfl)); (focus (exact rfl)); (focus (exact rfl)); (focus (repeat (first | apply Put.head | apply Put.tail))); (focus (first | (simp; done) | (simp [*]; done) | (simp [Value.oneCell']; done))); (focus (first | (simp; done) | (simp [*]; done) | (simp [Value.oneCell']; done))); (focus ((try simp only [spl]); exact rfl)); (focus (exact rfl)); intro w5 H5; clear H; have H := H5; clear H5)
      | ((with_reducible apply hpA_load1 tyfunc_P_pack_Out__P_msg_Request__bool H); (focus (exact rfl)); (focus (exact rfl)); (focus (first | (exact rfl) | (simp [Region.wanted]; done) | (simp only [Region.wanted]; go_simp; done))); (focus (repeat (first | exact List.Mem.head _ | apply List.Mem.tail))); (focus ((try simp only [List.getElem?_cons_zero, List.getElem?_cons_succ]); exact rfl))))
    | (go_at_call 73; (with_reducible refine (isCount _ _).mono ?_); rintro e w5 ⟨rfl, rfl⟩)
    | (go_at_call 74; (with_reducible refine (filterIs _ _).mono ?_); rintro e w5 ⟨rfl, ho⟩; have H5 := Lib.hid (H.out.quiet ho); clear H ho; have H := H5; clear H5)
    | (go_at_call 74; (with_reducible refine (filterIsX _ _ _).mono ?_); rintro e w5 ⟨rfl, ho⟩; have H5 := Lib.hid (H.out.quiet ho); clear H ho; have H := H5; clear H5)
    | (go_at_call 72; (with_reducible refine (partsC _ _).mono ?_); rintro e w5 ⟨v4, rfl, F4, hps, hf, ho⟩; have H5 := Lib.hid (H.out.quiet ho); clear H hps hf ho; have H := H5; clear H5))
  go_ret2
  exact ⟨by simp [HW.out], H.out.off⟩
set_option maxHeartbeats 16000000 in
theorem write_not (q : ReqV) (w : World) (ps : List Part) (hp : partsV q.kind = some ps) (hb : (!isCountV q.seq || !isFilterV q.filter) = true) : Calls Tryz.prog 44 #[.agg #[.int .i64 q.kind, .int .i64 q.seq, .int .i64 q.who, .int .i64 q.role, .int .u32 q.token, .int .u64 q.key, .int .i64 q.call.id, .int .i64 q.call.kind, .int .i64 q.call.src, .int .i64 q.call.dst, .int .i64 q.call.car, .int .i64 q.call.state, .int .i64 q.call.owner, .int .i64 q.call.born, .int .i64 q.id, .int .i64 q.car, .int .i64 q.mode, .int .i64 q.filter.kind, .int .i64 q.filter.n]] w fun e w' => e = .returned (.tuple #[.string (writeV q).1, .int .i64 (writeV q).2]) ∧ Off [] w w' := by
  have H := Lib.hid (Hp.start [] w)
  have HW := Lib.hid (show writeV q = (⟨#[]⟩, 1) by unfold writeV; rw [hp]; simp only []; rw [if_pos hb])
  rcases Bool.eq_false_or_eq_true (isCountV q.seq) with q0 | q0
  · have q1 : isFilterV q.filter = false := by simpa [q0] using hb
    clear hb
    go_enter Tryz.func44, Tryz.ntmps44
    go_wp2_with (first
      | ((with_reducible apply g_mem); (focus (exact rfl)); (with_reducible apply hpN_box 113 10 H); (focus (exact rfl)); (focus (exact rfl)); (focus (exact rfl)); (focus (exact rfl)); (focus (exact rfl)); intro w5 b10 H5; clear H; have H := outNewH H5; clear H5)
      | ((with_reducible apply g_mem); (focus (exact rfl)); first
      | ((with_reducible apply hpN_box 43 1 H); (focus (exact rfl)); (focus (exact rfl)); (focus (exact rfl)); (focus (exact rfl)); (focus (exact rfl)); intro w5 b1 H5; clear H; have H := H5; clear H5)
      | ((with_reducible apply hpN_box 113 10 H); (focus (exact rfl)); (focus (exact rfl)); (focus (exact rfl)); (focus (exact rfl)); (focus (exact rfl)); intro w5 b10 H5; clear H; have H := H5; clear H5)
      | ((with_reducible apply hpA_load1 tyint H); (focus (exact rfl)); (focus (exact rfl)); (focus (first | (exact rfl) | (simp [Region.wanted]; done) | (simp only [Region.wanted]; go_simp; done))); (focus (repeat (first | exact List.Mem.head _ | apply List.Mem.tail))); (focus ((try simp only [List.getElem?_cons_zero, List.getElem?_cons_succ]); exact rfl)))
      | ((with_reducible apply hpA_load tymsg_Filter H); (focus (exact rfl)); (focus (exact rfl)); (focus (first | (exact rfl) | (simp [Region.wanted]; done) | (simp only [Region.wanted]; go_simp; done))); (focus (repeat (first | exact List.Mem.head _ | apply List.Mem.tail))); (focus ((try simp only [List.drop_zero, List.drop_succ_cons, List.take_succ_cons, List.take_zero]); exact rfl)); (focus (exact rfl)))
      | ((with_reducible apply hpN_bslice Tryz.underlying67 tyint 34 H); (focus (exact rfl)); (focus (exact rfl)); (focus (first | (exact rfl) | (simp [Region.wanted]; done) | (simp only [Region.wanted]; go_simp; done))); (focus (first | decide | (simp; done))); (focus (first | decide | (simp; done))); (focus (first | (go_simp; exact rfl) | exact rfl)); intro w5 b34 H5; clear H; have H := H5; clear H5)
      | ((with_reducible apply hpN_bslice Tryz.underlying67 tyint 39 H); (focus (exact rfl)); (focus (exact rfl)); (focus (first | (exact rfl) | (simp [Region.wanted]; done) | (simp only [Region.wanted]; go_simp; done))); (focus (first | decide | (simp; done))); (focus (first | decide | (simp; done))); (focus (first | (go_simp; exact rfl) | exact rfl)); intro w5 b39 H5; clear H; have H := H5; clear H5)
      | ((with_reducible apply hpA_load tymsg_part H); (focus (exact rfl)); (focus (exact rfl)); (focus (first | (exact rfl) | (simp [Region.wanted]; done) | (simp only [Region.wanted]; go_simp; done))); (focus (repeat (first | exact List.Mem.head _ | apply List.Mem.tail))); (focus ((try simp only [List.drop_zero, List.drop_succ_cons, List.take_succ_cons, List.take_zero]); exact rfl)); (focus (exact rfl)))
      | ((with_reducible apply hpN_alloc tymsg_part 8 H); (focus (exact rfl)); (focus (exact rfl)); (focus (exact rfl)); intro w5 b8 H5; clear H; have H := H5; clear H5)
      | ((with_reducible apply hpA_store tymsg_part H); (focus (exact rfl)); (focus (exact rfl)); (focus (exact rfl)); (focus (exact rfl)); (focus (exact rfl)); (focus (repeat (first | apply Put.head | apply Put.tail))); (focus (first | (simp; done) | (simp [*]; done) | (simp [Value.oneCell']; done))); (focus (first | (simp; done) | (simp [*]; done) | (simp [Value.oneCell']; done))); (focus ((try simp only [spl]); exact rfl)); (focus (exact rfl)); intro w5 H5; clear H; have H := H5; clear H5)
      | ((with_reducible apply hpA_load1 tyfunc_P_pack_Out__P_msg_Request__bool H); (focus (exact rfl)); (focus (exact rfl)); (focus (first | (exact rfl) | (simp [Region.wanted]; done) | (simp only [Region.wanted]; go_simp; done))); (focus (repeat (first | exact List.Mem.head _ | apply List.Mem.tail))); (focus ((try simp only [List.getElem?_cons_zero, List.getElem?_cons_succ]); exact rfl))))
      | (go_at_call 73; (with_reducible refine (isCount _ _).mono ?_); rintro e w5 ⟨rfl, rfl⟩)
      | (go_at_call 74; (with_reducible refine (filterIs _ _).mono ?_); rintro e w5 ⟨rfl, ho⟩; have H5 := Lib.hid (H.out.quiet ho); clear H ho; have H := H5; clear H5)
      | (go_at_call 74; (with_reducible refine (filterIsX _ _ _).mono ?_); rintro e w5 ⟨rfl, ho⟩; have H5 := Lib.hid (H.out.quiet ho); clear H ho; have H := H5; clear H5)
      | (go_at_call 72; (with_reducible refine (partsC _ _).mono ?_); rintro e w5 ⟨v4, rfl, F4, hps, hf, ho⟩; rw [hp] at hps; simp only [Option.getD_some] at hps; obtain ⟨fs4, hps⟩ := hps; obtain ⟨a4, c4, rfl⟩ := PfAt.form (v := v4) hps; have H5 := Lib.hid (H.out.push (rPf F4 _ fs4 _) ho hps hf); clear H hps hf ho; have H := H5; clear H5)
      | (go_at_call 75; first | (go_loud (refine (outNumsH H (i := 2) (j := 0) (ns := [_]) rfl rfl rfl rfl (by simp) (by simp)).mono ?_); rintro e w5 ⟨rfl, F5, H5⟩; simp only [List.set_cons_zero, List.set_cons_succ] at H5; clear H; have H := H5; clear H5) | ((refine (outNumsH H (i := 3) (j := 0) (ns := [_]) rfl rfl rfl rfl (by simp) (by simp)).mono ?_); rintro e w5 ⟨rfl, F5, H5⟩; simp only [List.set_cons_zero, List.set_cons_succ] at H5; clear H; have H := H5; clear H5)))
    go_ret2
    exact ⟨by simp [HW.out], H.out.off⟩
  · clear hb
    go_enter Tryz.func44, Tryz.ntmps44
    go_wp2_with (first
      | ((with_reducible apply g_mem); (focus (exact rfl)); (with_reducible apply hpN_box 113 10 H); (focus (exact rfl)); (focus (exact rfl)); (focus (exact rfl)); (focus (exact rfl)); (focus (exact rfl)); intro w5 b10 H5; clear H; have H := outNewH H5; clear H5)
      | ((with_reducible apply g_mem); (focus (exact rfl)); first
      | ((with_reducible apply hpN_box 43 1 H); (focus (exact rfl)); (focus (exact rfl)); (focus (exact rfl)); (focus (exact rfl)); (focus (exact rfl)); intro w5 b1 H5; clear H; have H := H5; clear H5)
      | ((with_reducible apply hpN_box 113 10 H); (focus (exact rfl)); (focus (exact rfl)); (focus (exact rfl)); (focus (exact rfl)); (focus (exact rfl)); intro w5 b10 H5; clear H; have H := H5; clear H5)
      | ((with_reducible apply hpA_load1 tyint H); (focus (exact rfl)); (focus (exact rfl)); (focus (first | (exact rfl) | (simp [Region.wanted]; done) | (simp only [Region.wanted]; go_simp; done))); (focus (repeat (first | exact List.Mem.head _ | apply List.Mem.tail))); (focus ((try simp only [List.getElem?_cons_zero, List.getElem?_cons_succ]); exact rfl)))
      | ((with_reducible apply hpA_load tymsg_Filter H); (focus (exact rfl)); (focus (exact rfl)); (focus (first | (exact rfl) | (simp [Region.wanted]; done) | (simp only [Region.wanted]; go_simp; done))); (focus (repeat (first | exact List.Mem.head _ | apply List.Mem.tail))); (focus ((try simp only [List.drop_zero, List.drop_succ_cons, List.take_succ_cons, List.take_zero]); exact rfl)); (focus (exact rfl)))
      | ((with_reducible apply hpN_bslice Tryz.underlying67 tyint 34 H); (focus (exact rfl)); (focus (exact rfl)); (focus (first | (exact rfl) | (simp [Region.wanted]; done) | (simp only [Region.wanted]; go_simp; done))); (focus (first | decide | (simp; done))); (focus (first | decide | (simp; done))); (focus (first | (go_simp; exact rfl) | exact rfl)); intro w5 b34 H5; clear H; have H := H5; clear H5)
      | ((with_reducible apply hpN_bslice Tryz.underlying67 tyint 39 H); (focus (exact rfl)); (focus (exact rfl)); (focus (first | (exact rfl) | (simp [Region.wanted]; done) | (simp only [Region.wanted]; go_simp; done))); (focus (first | decide | (simp; done))); (focus (first | decide | (simp; done))); (focus (first | (go_simp; exact rfl) | exact rfl)); intro w5 b39 H5; clear H; have H := H5; clear H5)
      | ((with_reducible apply hpA_load tymsg_part H); (focus (exact rfl)); (focus (exact rfl)); (focus (first | (exact rfl) | (simp [Region.wanted]; done) | (simp only [Region.wanted]; go_simp; done))); (focus (repeat (first | exact List.Mem.head _ | apply List.Mem.tail))); (focus ((try simp only [List.drop_zero, List.drop_succ_cons, List.take_succ_cons, List.take_zero]); exact rfl)); (focus (exact rfl)))
      | ((with_reducible apply hpN_alloc tymsg_part 8 H); (focus (exact rfl)); (focus (exact rfl)); (focus (exact rfl)); intro w5 b8 H5; clear H; have H := H5; clear H5)
      | ((with_reducible apply hpA_store tymsg_part H); (focus (exact rfl)); (focus (exact rfl)); (focus (exact rfl)); (focus (exact rfl)); (focus (exact rfl)); (focus (repeat (first | apply Put.head | apply Put.tail))); (focus (first | (simp; done) | (simp [*]; done) | (simp [Value.oneCell']; done))); (focus (first | (simp; done) | (simp [*]; done) | (simp [Value.oneCell']; done))); (focus ((try simp only [spl]); exact rfl)); (focus (exact rfl)); intro w5 H5; clear H; have H := H5; clear H5)
      | ((with_reducible apply hpA_load1 tyfunc_P_pack_Out__P_msg_Request__bool H); (focus (exact rfl)); (focus (exact rfl)); (focus (first | (exact rfl) | (simp [Region.wanted]; done) | (simp only [Region.wanted]; go_simp; done))); (focus (repeat (first | exact List.Mem.head _ | apply List.Mem.tail))); (focus ((try simp only [List.getElem?_cons_zero, List.getElem?_cons_succ]); exact rfl))))
      | (go_at_call 73; (with_reducible refine (isCount _ _).mono ?_); rintro e w5 ⟨rfl, rfl⟩)
      | (go_at_call 74; (with_reducible refine (filterIs _ _).mono ?_); rintro e w5 ⟨rfl, ho⟩; have H5 := Lib.hid (H.out.quiet ho); clear H ho; have H := H5; clear H5)
      | (go_at_call 74; (with_reducible refine (filterIsX _ _ _).mono ?_); rintro e w5 ⟨rfl, ho⟩; have H5 := Lib.hid (H.out.quiet ho); clear H ho; have H := H5; clear H5)
      | (go_at_call 72; (with_reducible refine (partsC _ _).mono ?_); rintro e w5 ⟨v4, rfl, F4, hps, hf, ho⟩; rw [hp] at hps; simp only [Option.getD_some] at hps; obtain ⟨fs4, hps⟩ := hps; obtain ⟨a4, c4, rfl⟩ := PfAt.form (v := v4) hps; have H5 := Lib.hid (H.out.push (rPf F4 _ fs4 _) ho hps hf); clear H hps hf ho; have H := H5; clear H5)
      | (go_at_call 75; first | (go_loud (refine (outNumsH H (i := 2) (j := 0) (ns := [_]) rfl rfl rfl rfl (by simp) (by simp)).mono ?_); rintro e w5 ⟨rfl, F5, H5⟩; simp only [List.set_cons_zero, List.set_cons_succ] at H5; clear H; have H := H5; clear H5) | ((refine (outNumsH H (i := 3) (j := 0) (ns := [_]) rfl rfl rfl rfl (by simp) (by simp)).mono ?_); rintro e w5 ⟨rfl, F5, H5⟩; simp only [List.set_cons_zero, List.set_cons_succ] at H5; clear H; have H := H5; clear H5)))
    go_ret2
    exact ⟨by simp [HW.out], H.out.off⟩
end Go.Proofs.YthflkhalipkdgaaGreat.Ms
