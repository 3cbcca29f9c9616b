/- Layer 14: a request that is read. -/
import Derived.Test.YthflkhalipkdgaaGreatProg
import Derived.Below
import Derived.WalkKit
import Derived.KernelRfl
import Derived.RowKit3
import Derived.Deep.LoopGhost
import Derived.Deep.QuietTactic
import Derived.BigQuiet
import Derived.WideLaws
import Derived.Deep.DeepCutAuto
import Derived.Deep.CutBlock
import Derived.Lib.Hide
import Derived.Laws.BitsLemmas
import Derived.Laws.Bits64
import Derived.Laws.BitsAllLaws
import Derived.IntWalk
import Derived.Outline
import Derived.WalkSpells
import Derived.Test.YthflkhalipkdgaaGreatGA
import Derived.Test.YthflkhalipkdgaaGreatWs
namespace Go.Proofs.YthflkhalipkdgaaGreat.Ms
set_option maxRecDepth 20000
set_option linter.unusedVariables false
set_option linter.unusedSimpArgs false
open Go.RowKit Go.Proofs.YthflkhalipkdgaaGreat.Mem Go.Proofs.YthflkhalipkdgaaGreat.Pk Go.Proofs.YthflkhalipkdgaaGreat.Ca

/-- a request, and what is left, behind parts that are read -/
def getAll (q : ReqV) (s : ByteArray) (bad : Bool) : List Part → ReqV × ByteArray × Bool
  | [] => (q, s, bad)
  | p :: ps => getAll (getPart q s bad p).1 (getPart q s bad p).2.1 (getPart q s bad p).2.2 ps
theorem getAll_snoc (q : ReqV) (s : ByteArray) (bad : Bool) (ps : List Part) (p : Part) : getAll q s bad (ps ++ [p]) = getPart (getAll q s bad ps).1 (getAll q s bad ps).2.1 (getAll q s bad ps).2.2 p := by
  induction ps generalizing q s bad with
  | nil => rfl
  | cons x xs ih => exact ih _ _ _
theorem getAll_next (q : ReqV) (s : ByteArray) (bad : Bool) (ps : List Part) (k : Nat) (hk : k < ps.length) : getAll q s bad (ps.take (k + 1)) = getPart (getAll q s bad (ps.take k)).1 (getAll q s bad (ps.take k)).2.1 (getAll q s bad (ps.take k)).2.2 ps[k] := by
  rw [List.take_succ_eq_append_getElem hk, getAll_snoc]
theorem setField_ok (q : ReqV) (n : Int) (k : Nat) (h : okReq q) : okReq (setField q n k) := by
  unfold setField
  split <;> exact h
theorem getPart_ok (q : ReqV) (s : ByteArray) (bad : Bool) (p : Part) (h : okReq q) : okReq (getPart q s bad p).1 := by
  cases p with
  | num wd off chk => exact setField_ok _ _ _ h
  | token =>
    have := inNum4 s bad
    refine ⟨?_, h.2⟩
    show 0 ≤ (((inNumV s bad 4).1 : Nat) : Int) ∧ (((inNumV s bad 4).1 : Nat) : Int) ≤ 4294967295
    omega
  | key =>
    have h1 := inNum4 s bad
    have h2 := inNum4 (inNumV s bad 4).2.1 (inNumV s bad 4).2.2
    refine ⟨h.1, ?_⟩
    show 0 ≤ (((inNumV s bad 4).1 : Nat) : Int) * 4294967296 + (((inNumV (inNumV s bad 4).2.1 (inNumV s bad 4).2.2 4).1 : Nat) : Int) ∧ (((inNumV s bad 4).1 : Nat) : Int) * 4294967296 + (((inNumV (inNumV s bad 4).2.1 (inNumV s bad 4).2.2 4).1 : Nat) : Int) ≤ 18446744073709551615
    omega
theorem getAll_ok (q : ReqV) (s : ByteArray) (bad : Bool) (ps : List Part) (h : okReq q) : okReq (getAll q s bad ps).1 := by
  induction ps generalizing q s bad with
  | nil => exact h
  | cons x xs ih => exact ih _ _ _ (getPart_ok _ _ _ _ h)
def startV (s : ByteArray) : ReqV × ByteArray × Bool := ({ noReq with kind := (inNumV s false 1).1, seq := (inNumV (inNumV s false 1).2.1 (inNumV s false 1).2.2 4).1 }, (inNumV (inNumV s false 1).2.1 (inNumV s false 1).2.2 4).2)
/-- what Decode finds -/
def foundV (s : ByteArray) : ReqV × ByteArray × Bool := getAll (startV s).1 (startV s).2.1 (startV s).2.2 ((partsV (startV s).1.kind).getD [])
def decodeV (s : ByteArray) : ReqV × Int :=
  if (partsV (startV s).1.kind).isSome = false then (noReq, 4)
  else if (!(foundV s).2.2 && (foundV s).2.1.toList.isEmpty) = false then (noReq, 4)
  else if ((writeV (foundV s).1).2 != 0) = true then (noReq, 4)
  else if (!(writeV (foundV s).1).1.toList == s.toList) = true then (noReq, 4)
  else ((foundV s).1, 0)
theorem decode_of (s : ByteArray) : ∀ (ok : Bool) (q : ReqV) (t : ByteArray) (bad : Bool), (partsV (startV s).1.kind).isSome = ok → foundV s = (q, t, bad) → decodeV s = if ok = false then (noReq, 4)
  else if (!bad && t.toList.isEmpty) = false then (noReq, 4)
  else if ((writeV q).2 != 0) = true then (noReq, 4)
  else if (!(writeV q).1.toList == s.toList) = true then (noReq, 4)
  else (q, 0) := by
  intro ok q t bad h1 h2
  unfold decodeV
  rw [h1, h2]
theorem start_ok (s : ByteArray) : okReq (startV s).1 := ⟨⟨by show (0 : Int) ≤ 0; decide, by show (0 : Int) ≤ 4294967295; decide⟩, ⟨by show (0 : Int) ≤ 0; decide, by show (0 : Int) ≤ 18446744073709551615; decide⟩⟩
theorem found_ok (s : ByteArray) : okReq (foundV s).1 := getAll_ok _ _ _ _ (start_ok s)
theorem parts_few' (kind : Int) : ((partsV kind).getD []).length ≤ 5 := by
  rcases h : partsV kind with _ | ps
  · decide
  · exact parts_few _ _ h
section
variable {S : List Nat} {w0 w : World} {R : List Res}
theorem ne_of (H : Hid (Hp S w0 w R)) {i j b : Nat} {r : Res} {t : TypeId} {cs : List Value} (hi : R[i]? = some r) (hj : R[j]? = some (rB b t cs)) (hij : i ≠ j) {k : Nat} (hk : k ∈ r.foot) : k ≠ b := fun e => Pk.Hp.two H.out hi hj hij (by simp [rB]) k hk (by simp [rB, e])
theorem get_numH (H : Hid (Hp S w0 w R)) {b r : Nat} {s : ByteArray} {bad : Bool} {i j : Nat} {q : ReqV} (hi : R[i]? = some (rB b 143 [.string s, .bool bad])) (hj : R[j]? = some (rB r 43 q.cells)) (hij : i ≠ j) {F : List Nat} {v : Value} {fs : List (Value × Value)} {ps : List Part} {n k : Nat} (hk : R[k]? = some (rPf F v fs ps)) {wd off : Nat} {chk : Chk} {bo bc bw : Nat} {fg : Value} (hfs : fs[n]? = some (.func (.func 100) #[] #[.pointer (some ⟨bo, 0, none⟩), .pointer (some ⟨bc, 0, none⟩), .pointer (some ⟨bw, 0, none⟩)], fg)) (hps : ps[n]? = some (.num wd off chk)) (hki : k ≠ i) (hkj : k ≠ j) :
    Calls Tryz.prog 101 #[.pointer (some ⟨b, 0, none⟩), .pointer (some ⟨r, 0, none⟩), .pointer (some ⟨bw, 0, none⟩), .pointer (some ⟨bo, 0, none⟩)] w (Gets S w0 R i b j r (getPart q s bad (.num wd off chk))) := by
  obtain ⟨h0, _, _, _, m1, _, m3, k1, _, k3⟩ := num_of H hk hfs hps
  exact get_num H hi hj hij h0 k1 k3 (ne_of H hk hi hki m1) (ne_of H hk hj hkj m1) (ne_of H hk hi hki m3) (ne_of H hk hj hkj m3) (fun e => (ne_of H hj hi (Ne.symm hij) (k := b) (by simp [rB, e])) rfl)
end
set_option maxRecDepth 20000 in
set_option maxHeartbeats 64000000 in
theorem decodeC (s : ByteArray) (w : World) : Calls Tryz.prog 45 #[.string s] w fun e w' => e = .returned (.tuple #[.agg #[.int .i64 ((decodeV s).1).kind, .int .i64 ((decodeV s).1).seq, .int .i64 ((decodeV s).1).who, .int .i64 ((decodeV s).1).role, .int .u32 ((decodeV s).1).token, .int .u64 ((decodeV s).1).key, .int .i64 (((decodeV s).1).call).id, .int .i64 (((decodeV s).1).call).kind, .int .i64 (((decodeV s).1).call).src, .int .i64 (((decodeV s).1).call).dst, .int .i64 (((decodeV s).1).call).car, .int .i64 (((decodeV s).1).call).state, .int .i64 (((decodeV s).1).call).owner, .int .i64 (((decodeV s).1).call).born, .int .i64 ((decodeV s).1).id, .int .i64 ((decodeV s).1).car, .int .i64 ((decodeV s).1).mode, .int .i64 (((decodeV s).1).filter).kind, .int .i64 (((decodeV s).1).filter).n], .int .i64 (decodeV s).2]) ∧ Off [] w w' := by
  have H := Lib.hid (Hp.start [] w)
  have h5 := parts_few' (startV s).1.kind
  go_enter Tryz.func45, Tryz.ntmps45
  go_wp2_with (first
    | ((with_reducible apply g_mem); (focus (exact rfl)); first
      | ((with_reducible apply hpN_alloc tymsg_Request 2 H); (focus (exact rfl)); (focus (exact rfl)); (focus (exact rfl)); intro w5 b2 H5; clear H; have H := H5; clear H5)
      | ((with_reducible apply hpN_alloc tymsg_Request 5 H); (focus (exact rfl)); (focus (exact rfl)); (focus (exact rfl)); intro w5 b5 H5; clear H; have H := H5; clear H5)
      | ((with_reducible apply hpA_store tymsg_Request H); (focus (exact rfl)); (focus (exact rfl)); (focus (exact rfl)); (focus (exact rfl)); (focus (exact rfl)); (focus (repeat (first | apply Put.head | apply Put.tail))); (focus (first | (simp; done) | (simp [*]; done) | (simp [Value.oneCell']; done))); (focus (first | (simp; done) | (simp [*]; done) | (simp [Value.oneCell']; done))); (focus ((try simp only [spl]); exact rfl)); (focus (exact rfl)); intro w5 H5; clear H; have H := H5; clear H5)
      | ((with_reducible apply hpA_load1 tyint H); (focus (exact rfl)); (focus (exact rfl)); (focus (first | (exact rfl) | (simp [Region.wanted]; done) | (simp only [Region.wanted]; go_simp; done))); (focus (repeat (first | exact List.Mem.head _ | apply List.Mem.tail))); (focus ((try simp only [List.getElem?_cons_zero, List.getElem?_cons_succ]); exact rfl)))
      | ((with_reducible apply hpA_load tymsg_part H); (focus (exact rfl)); (focus (exact rfl)); (focus (first | (exact rfl) | (simp [Region.wanted]; done) | (simp only [Region.wanted]; go_simp; done))); (focus (repeat (first | exact List.Mem.head _ | apply List.Mem.tail))); (focus ((try simp only [List.drop_zero, List.drop_succ_cons, List.take_succ_cons, List.take_zero]); exact rfl)); (focus (exact rfl)))
      | ((with_reducible apply hpN_alloc tymsg_part 9 H); (focus (exact rfl)); (focus (exact rfl)); (focus (exact rfl)); intro w5 b9 H5; clear H; have H := H5; clear H5)
      | ((with_reducible apply hpA_store tymsg_part H); (focus (exact rfl)); (focus (exact rfl)); (focus (exact rfl)); (focus (exact rfl)); (focus (exact rfl)); (focus (repeat (first | apply Put.head | apply Put.tail))); (focus (first | (simp; done) | (simp [*]; done) | (simp [Value.oneCell']; done))); (focus (first | (simp; done) | (simp [*]; done) | (simp [Value.oneCell']; done))); (focus ((try simp only [spl]); exact rfl)); (focus (exact rfl)); intro w5 H5; clear H; have H := H5; clear H5)
      | ((with_reducible apply hpA_load1 tyfunc_P_pack_In__P_msg_Request_ H); (focus (exact rfl)); (focus (exact rfl)); (focus (first | (exact rfl) | (simp [Region.wanted]; done) | (simp only [Region.wanted]; go_simp; done))); (focus (repeat (first | exact List.Mem.head _ | apply List.Mem.tail))); (focus ((try simp only [List.getElem?_cons_zero, List.getElem?_cons_succ]); exact rfl)))
      | ((with_reducible apply hpA_load tymsg_Request H); (focus (exact rfl)); (focus (exact rfl)); (focus (first | (exact rfl) | (simp [Region.wanted]; done) | (simp only [Region.wanted]; go_simp; done))); (focus (repeat (first | exact List.Mem.head _ | apply List.Mem.tail))); (focus ((try simp only [List.drop_zero, List.drop_succ_cons, List.take_succ_cons, List.take_zero]); exact rfl)); (focus (exact rfl))))
    | (go_at_call 76; (with_reducible refine (inOfH H).mono ?_); rintro e w5 ⟨bi, rfl, H5⟩; clear H; have H := H5; clear H5)
    | (go_at_call 77; (refine (inNumH H (i := 0) rfl).mono ?_); rintro e w5 ⟨rfl, H5⟩; simp only [List.set_cons_zero] at H5; clear H; have H := H5; clear H5)
    | (go_at_call 72; (with_reducible refine (partsC _ _).mono ?_); rintro e w5 ⟨v4, rfl, F4, hps, hf, ho⟩; obtain ⟨fs4, hps⟩ := hps; obtain ⟨a4, c4, rfl⟩ := PfAt.form (v := v4) hps; have H5 := Lib.hid (H.out.push (rPf F4 _ fs4 _) ho hps hf); clear H hps hf ho; have H := H5; clear H5))
  have HE := Lib.hid (show foundV s = getAll (startV s).1 (startV s).2.1 (startV s).2.2 ((partsV ↑(inNumV s false 1).fst).getD []) from rfl)
  have HG := Lib.hid (decode_of s)
  have HK : Hid (∃ ok, ok = (partsV ↑(inNumV s false 1).fst).isSome) := Lib.hid ⟨_, rfl⟩
  change ((partsV ↑(inNumV s false 1).fst).getD []).length ≤ 5 at h5
  generalize hPS : (partsV ↑(inNumV s false 1).fst).getD [] = ps at *
  generalize hOK : (partsV ↑(inNumV s false 1).fst).isSome = ok at *
  clear HK hPS
  have HO := Lib.hid hOK
  clear hOK
  go_loopw [27] (fun vi wr => ∃ (k : Nat) (q : ReqV) (t : ByteArray) (bad : Bool), k ≤ ps.length ∧ vi = .int .i64 k ∧ Hid (getAll (startV s).1 (startV s).2.1 (startV s).2.2 (ps.take k) = (q, t, bad)) ∧ Hid (Hp [] w wr [rPf F4 (.slice a4 ps.length c4) fs4 ps, rB b5 43 [.int .i64 q.kind, .int .i64 q.seq, .int .i64 q.who, .int .i64 q.role, .int .u32 q.token, .int .u64 q.key, .int .i64 q.call.id, .int .i64 q.call.kind, .int .i64 q.call.src, .int .i64 q.call.dst, .int .i64 q.call.car, .int .i64 q.call.state, .int .i64 q.call.owner, .int .i64 q.call.born, .int .i64 q.id, .int .i64 q.car, .int .i64 q.mode, .int .i64 q.filter.kind, .int .i64 q.filter.n], rB bi 143 [.string t, .bool bad], rB b2 43 [.int .i64 0, .int .i64 0, .int .i64 0, .int .i64 0, .int .u32 0, .int .u64 0, .int .i64 0, .int .i64 0, .int .i64 0, .int .i64 0, .int .i64 0, .int .i64 0, .int .i64 0, .int .i64 0, .int .i64 0, .int .i64 0, .int .i64 0, .int .i64 0, .int .i64 0]])) (fun vi _ => ps.length - (intOf vi).toNat)
  case atStart => exact ⟨0, (startV s).1, (startV s).2.1, (startV s).2.2, by omega, rfl, Lib.hid rfl, H⟩
  case round =>
    clear H
    obtain ⟨k, q, t, bad, hk, rfl, hx, H⟩ := hrel
    by_cases hlt : k < ps.length
    · obtain ⟨x, fp, fg, rfl, hfk, hcell, hpart⟩ := PfAt.cells (H.out.at 0 rfl) k hlt
      have hpk : ps[k]? = some ps[k] := by simp [hlt]
      have HN := Lib.hid (getAll_next (startV s).1 (startV s).2.1 (startV s).2.2 ps k hlt)
      generalize ps[k] = p at *
      have c0 := hcell.first _ rfl
      have c1 := hcell.next 0 _ rfl
      have HF := Lib.hid hfk
      have HPK := Lib.hid hpk
      clear hcell hfk hpk
      cases p with
      | num wd off chk =>
        obtain ⟨_, _, _, bo, bc, bw, rfl, rfl, _⟩ := hpart
        go_wp2_with (first
          | ((with_reducible apply g_mem); (focus (exact rfl)); first
      | ((with_reducible apply hpN_alloc tymsg_Request 2 H); (focus (exact rfl)); (focus (exact rfl)); (focus (exact rfl)); intro w5 b2 H5; clear H; have H := H5; clear H5)
      | ((with_reducible apply hpN_alloc tymsg_Request 5 H); (focus (exact rfl)); (focus (exact rfl)); (focus (exact rfl)); intro w5 b5 H5; clear H; have H := H5; clear H5)
      | ((with_reducible apply hpA_store tymsg_Request H); (focus (exact rfl)); (focus (exact rfl)); (focus (exact rfl)); (focus (exact rfl)); (focus (exact rfl)); (focus (repeat (first | apply Put.head | apply Put.tail))); (focus (first | (simp; done) | (simp [*]; done) | (simp [Value.oneCell']; done))); (focus (first | (simp; done) | (simp [*]; done) | (simp [Value.oneCell']; done))); (focus ((try simp only [spl]); exact rfl)); (focus (exact rfl)); intro w5 H5; clear H; have H := H5; clear H5)
      | ((with_reducible apply hpA_load1 tyint H); (focus (exact rfl)); (focus (exact rfl)); (focus (first | (exact rfl) | (simp [Region.wanted]; done) | (simp only [Region.wanted]; go_simp; done))); (focus (repeat (first | exact List.Mem.head _ | apply List.Mem.tail))); (focus ((try simp only [List.getElem?_cons_zero, List.getElem?_cons_succ]); exact rfl)))
      | ((with_reducible apply hpA_load tymsg_part H); (focus (exact rfl)); (focus (exact rfl)); (focus (first | (exact rfl) | (simp [Region.wanted]; done) | (simp only [Region.wanted]; go_simp; done))); (focus (repeat (first | exact List.Mem.head _ | apply List.Mem.tail))); (focus ((try simp only [List.drop_zero, List.drop_succ_cons, List.take_succ_cons, List.take_zero]); exact rfl)); (focus (exact rfl)))
      | ((with_reducible apply hpN_alloc tymsg_part 9 H); (focus (exact rfl)); (focus (exact rfl)); (focus (exact rfl)); intro w5 b9 H5; clear H; have H := H5; clear H5)
      | ((with_reducible apply hpA_store tymsg_part H); (focus (exact rfl)); (focus (exact rfl)); (focus (exact rfl)); (focus (exact rfl)); (focus (exact rfl)); (focus (repeat (first | apply Put.head | apply Put.tail))); (focus (first | (simp; done) | (simp [*]; done) | (simp [Value.oneCell']; done))); (focus (first | (simp; done) | (simp [*]; done) | (simp [Value.oneCell']; done))); (focus ((try simp only [spl]); exact rfl)); (focus (exact rfl)); intro w5 H5; clear H; have H := H5; clear H5)
      | ((with_reducible apply hpA_load1 tyfunc_P_pack_In__P_msg_Request_ H); (focus (exact rfl)); (focus (exact rfl)); (focus (first | (exact rfl) | (simp [Region.wanted]; done) | (simp only [Region.wanted]; go_simp; done))); (focus (repeat (first | exact List.Mem.head _ | apply List.Mem.tail))); (focus ((try simp only [List.getElem?_cons_zero, List.getElem?_cons_succ]); exact rfl)))
      | ((with_reducible apply hpA_load tymsg_Request H); (focus (exact rfl)); (focus (exact rfl)); (focus (first | (exact rfl) | (simp [Region.wanted]; done) | (simp only [Region.wanted]; go_simp; done))); (focus (repeat (first | exact List.Mem.head _ | apply List.Mem.tail))); (focus ((try simp only [List.drop_zero, List.drop_succ_cons, List.take_succ_cons, List.take_zero]); exact rfl)); (focus (exact rfl))))
          | (go_at_call 76; (with_reducible refine (inOfH H).mono ?_); rintro e w5 ⟨bi, rfl, H5⟩; clear H; have H := H5; clear H5)
          | (go_at_call 77; (refine (inNumH H (i := 0) rfl).mono ?_); rintro e w5 ⟨rfl, H5⟩; simp only [List.set_cons_zero] at H5; clear H; have H := H5; clear H5)
          | (go_at_call 72; (with_reducible refine (partsC _ _).mono ?_); rintro e w5 ⟨v4, rfl, F4, hps, hf, ho⟩; obtain ⟨fs4, hps⟩ := hps; obtain ⟨a4, c4, rfl⟩ := PfAt.form (v := v4) hps; have H5 := Lib.hid (H.out.push (rPf F4 _ fs4 _) ho hps hf); clear H hps hf ho; have H := H5; clear H5)
          | (go_at_call 101; go_loud (refine (get_numH H (i := 3) (j := 2) (q := q) rfl rfl (by omega) (k := 1) rfl HF.out HPK.out (by omega) (by omega)).mono ?_); rintro e w5 ⟨rfl, H5⟩; simp only [List.set_cons_zero, List.set_cons_succ] at H5; clear H; have H := H5; clear H5))
        go_roundw
        case rel =>
          refine ⟨k + 1, (getPart q t bad (.num wd off chk)).1, (getPart q t bad (.num wd off chk)).2.1, (getPart q t bad (.num wd off chk)).2.2, by omega, by go_num, Lib.hid (by rw [HN.out, hx.out]), ?_⟩
          exact Lib.hid (H.out.sub (by simp [ReqV.cells]))
        case measure => simp [intOf]; omega
      | token =>
        obtain ⟨rfl, rfl⟩ := hpart
        go_wp2_with (first
          | ((with_reducible apply g_mem); (focus (exact rfl)); first
      | ((with_reducible apply hpN_alloc tymsg_Request 2 H); (focus (exact rfl)); (focus (exact rfl)); (focus (exact rfl)); intro w5 b2 H5; clear H; have H := H5; clear H5)
      | ((with_reducible apply hpN_alloc tymsg_Request 5 H); (focus (exact rfl)); (focus (exact rfl)); (focus (exact rfl)); intro w5 b5 H5; clear H; have H := H5; clear H5)
      | ((with_reducible apply hpA_store tymsg_Request H); (focus (exact rfl)); (focus (exact rfl)); (focus (exact rfl)); (focus (exact rfl)); (focus (exact rfl)); (focus (repeat (first | apply Put.head | apply Put.tail))); (focus (first | (simp; done) | (simp [*]; done) | (simp [Value.oneCell']; done))); (focus (first | (simp; done) | (simp [*]; done) | (simp [Value.oneCell']; done))); (focus ((try simp only [spl]); exact rfl)); (focus (exact rfl)); intro w5 H5; clear H; have H := H5; clear H5)
      | ((with_reducible apply hpA_load1 tyint H); (focus (exact rfl)); (focus (exact rfl)); (focus (first | (exact rfl) | (simp [Region.wanted]; done) | (simp only [Region.wanted]; go_simp; done))); (focus (repeat (first | exact List.Mem.head _ | apply List.Mem.tail))); (focus ((try simp only [List.getElem?_cons_zero, List.getElem?_cons_succ]); exact rfl)))
      | ((with_reducible apply hpA_load tymsg_part H); (focus (exact rfl)); (focus (exact rfl)); (focus (first | (exact rfl) | (simp [Region.wanted]; done) | (simp only [Region.wanted]; go_simp; done))); (focus (repeat (first | exact List.Mem.head _ | apply List.Mem.tail))); (focus ((try simp only [List.drop_zero, List.drop_succ_cons, List.take_succ_cons, List.take_zero]); exact rfl)); (focus (exact rfl)))
      | ((with_reducible apply hpN_alloc tymsg_part 9 H); (focus (exact rfl)); (focus (exact rfl)); (focus (exact rfl)); intro w5 b9 H5; clear H; have H := H5; clear H5)
      | ((with_reducible apply hpA_store tymsg_part H); (focus (exact rfl)); (focus (exact rfl)); (focus (exact rfl)); (focus (exact rfl)); (focus (exact rfl)); (focus (repeat (first | apply Put.head | apply Put.tail))); (focus (first | (simp; done) | (simp [*]; done) | (simp [Value.oneCell']; done))); (focus (first | (simp; done) | (simp [*]; done) | (simp [Value.oneCell']; done))); (focus ((try simp only [spl]); exact rfl)); (focus (exact rfl)); intro w5 H5; clear H; have H := H5; clear H5)
      | ((with_reducible apply hpA_load1 tyfunc_P_pack_In__P_msg_Request_ H); (focus (exact rfl)); (focus (exact rfl)); (focus (first | (exact rfl) | (simp [Region.wanted]; done) | (simp only [Region.wanted]; go_simp; done))); (focus (repeat (first | exact List.Mem.head _ | apply List.Mem.tail))); (focus ((try simp only [List.getElem?_cons_zero, List.getElem?_cons_succ]); exact rfl)))
      | ((with_reducible apply hpA_load tymsg_Request H); (focus (exact rfl)); (focus (exact rfl)); (focus (first | (exact rfl) | (simp [Region.wanted]; done) | (simp only [Region.wanted]; go_simp; done))); (focus (repeat (first | exact List.Mem.head _ | apply List.Mem.tail))); (focus ((try simp only [List.drop_zero, List.drop_succ_cons, List.take_succ_cons, List.take_zero]); exact rfl)); (focus (exact rfl))))
          | (go_at_call 76; (with_reducible refine (inOfH H).mono ?_); rintro e w5 ⟨bi, rfl, H5⟩; clear H; have H := H5; clear H5)
          | (go_at_call 77; (refine (inNumH H (i := 0) rfl).mono ?_); rintro e w5 ⟨rfl, H5⟩; simp only [List.set_cons_zero] at H5; clear H; have H := H5; clear H5)
          | (go_at_call 72; (with_reducible refine (partsC _ _).mono ?_); rintro e w5 ⟨v4, rfl, F4, hps, hf, ho⟩; obtain ⟨fs4, hps⟩ := hps; obtain ⟨a4, c4, rfl⟩ := PfAt.form (v := v4) hps; have H5 := Lib.hid (H.out.push (rPf F4 _ fs4 _) ho hps hf); clear H hps hf ho; have H := H5; clear H5)
          | (go_at_call 103; go_loud (refine (get_token H (i := 3) (j := 2) (q := q) rfl rfl (by omega)).mono ?_); rintro e w5 ⟨rfl, H5⟩; simp only [List.set_cons_zero, List.set_cons_succ] at H5; clear H; have H := H5; clear H5))
        go_roundw
        case rel =>
          refine ⟨k + 1, (getPart q t bad (.token)).1, (getPart q t bad (.token)).2.1, (getPart q t bad (.token)).2.2, by omega, by go_num, Lib.hid (by rw [HN.out, hx.out]), ?_⟩
          exact Lib.hid (H.out.sub (by simp [ReqV.cells]))
        case measure => simp [intOf]; omega
      | key =>
        obtain ⟨rfl, rfl⟩ := hpart
        go_wp2_with (first
          | ((with_reducible apply g_mem); (focus (exact rfl)); first
      | ((with_reducible apply hpN_alloc tymsg_Request 2 H); (focus (exact rfl)); (focus (exact rfl)); (focus (exact rfl)); intro w5 b2 H5; clear H; have H := H5; clear H5)
      | ((with_reducible apply hpN_alloc tymsg_Request 5 H); (focus (exact rfl)); (focus (exact rfl)); (focus (exact rfl)); intro w5 b5 H5; clear H; have H := H5; clear H5)
      | ((with_reducible apply hpA_store tymsg_Request H); (focus (exact rfl)); (focus (exact rfl)); (focus (exact rfl)); (focus (exact rfl)); (focus (exact rfl)); (focus (repeat (first | apply Put.head | apply Put.tail))); (focus (first | (simp; done) | (simp [*]; done) | (simp [Value.oneCell']; done))); (focus (first | (simp; done) | (simp [*]; done) | (simp [Value.oneCell']; done))); (focus ((try simp only [spl]); exact rfl)); (focus (exact rfl)); intro w5 H5; clear H; have H := H5; clear H5)
      | ((with_reducible apply hpA_load1 tyint H); (focus (exact rfl)); (focus (exact rfl)); (focus (first | (exact rfl) | (simp [Region.wanted]; done) | (simp only [Region.wanted]; go_simp; done))); (focus (repeat (first | exact List.Mem.head _ | apply List.Mem.tail))); (focus ((try simp only [List.getElem?_cons_zero, List.getElem?_cons_succ]); exact rfl)))
      | ((with_reducible apply hpA_load tymsg_part H); (focus (exact rfl)); (focus (exact rfl)); (focus (first | (exact rfl) | (simp [Region.wanted]; done) | (simp only [Region.wanted]; go_simp; done))); (focus (repeat (first | exact List.Mem.head _ | apply List.Mem.tail))); (focus ((try simp only [List.drop_zero, List.drop_succ_cons, List.take_succ_cons, List.take_zero]); exact rfl)); (focus (exact rfl)))
      | ((with_reducible apply hpN_alloc tymsg_part 9 H); (focus (exact rfl)); (focus (exact rfl)); (focus (exact rfl)); intro w5 b9 H5; clear H; have H := H5; clear H5)
      | ((with_reducible apply hpA_store tymsg_part H); (focus (exact rfl)); (focus (exact rfl)); (focus (exact rfl)); (focus (exact rfl)); (focus (exact rfl)); (focus (repeat (first | apply Put.head | apply Put.tail))); (focus (first | (simp; done) | (simp [*]; done) | (simp [Value.oneCell']; done))); (focus (first | (simp; done) | (simp [*]; done) | (simp [Value.oneCell']; done))); (focus ((try simp only [spl]); exact rfl)); (focus (exact rfl)); intro w5 H5; clear H; have H := H5; clear H5)
      | ((with_reducible apply hpA_load1 tyfunc_P_pack_In__P_msg_Request_ H); (focus (exact rfl)); (focus (exact rfl)); (focus (first | (exact rfl) | (simp [Region.wanted]; done) | (simp only [Region.wanted]; go_simp; done))); (focus (repeat (first | exact List.Mem.head _ | apply List.Mem.tail))); (focus ((try simp only [List.getElem?_cons_zero, List.getElem?_cons_succ]); exact rfl)))
      | ((with_reducible apply hpA_load tymsg_Request H); (focus (exact rfl)); (focus (exact rfl)); (focus (first | (exact rfl) | (simp [Region.wanted]; done) | (simp only [Region.wanted]; go_simp; done))); (focus (repeat (first | exact List.Mem.head _ | apply List.Mem.tail))); (focus ((try simp only [List.drop_zero, List.drop_succ_cons, List.take_succ_cons, List.take_zero]); exact rfl)); (focus (exact rfl))))
          | (go_at_call 76; (with_reducible refine (inOfH H).mono ?_); rintro e w5 ⟨bi, rfl, H5⟩; clear H; have H := H5; clear H5)
          | (go_at_call 77; (refine (inNumH H (i := 0) rfl).mono ?_); rintro e w5 ⟨rfl, H5⟩; simp only [List.set_cons_zero] at H5; clear H; have H := H5; clear H5)
          | (go_at_call 72; (with_reducible refine (partsC _ _).mono ?_); rintro e w5 ⟨v4, rfl, F4, hps, hf, ho⟩; obtain ⟨fs4, hps⟩ := hps; obtain ⟨a4, c4, rfl⟩ := PfAt.form (v := v4) hps; have H5 := Lib.hid (H.out.push (rPf F4 _ fs4 _) ho hps hf); clear H hps hf ho; have H := H5; clear H5)
          | (go_at_call 105; go_loud (refine (get_key H (i := 3) (j := 2) (q := q) rfl rfl (by omega)).mono ?_); rintro e w5 ⟨rfl, H5⟩; simp only [List.set_cons_zero, List.set_cons_succ] at H5; clear H; have H := H5; clear H5))
        go_roundw
        case rel =>
          refine ⟨k + 1, (getPart q t bad (.key)).1, (getPart q t bad (.key)).2.1, (getPart q t bad (.key)).2.2, by omega, by go_num, Lib.hid (by rw [HN.out, hx.out]), ?_⟩
          exact Lib.hid (H.out.sub (by simp [ReqV.cells]))
        case measure => simp [intOf]; omega
    · obtain rfl : k = ps.length := by omega
      have HT1 := Lib.hid (List.take_length (l := ps))
      have HX := Lib.hid (HG.out ok q t bad HO.out (by rw [HE.out, ← hx.out, HT1.out]))
      have HV : Hid (okReq q) := Lib.hid (by have h := found_ok s; rw [show foundV s = (q, t, bad) from by rw [HE.out, ← hx.out, HT1.out]] at h; exact h)
      clear HG HE hx HT1 HO
      cases ok with
      | false =>
        go_wp2_with (first
          | ((with_reducible apply g_mem); (focus (exact rfl)); first
      | ((with_reducible apply hpN_alloc tymsg_Request 2 H); (focus (exact rfl)); (focus (exact rfl)); (focus (exact rfl)); intro w5 b2 H5; clear H; have H := H5; clear H5)
      | ((with_reducible apply hpN_alloc tymsg_Request 5 H); (focus (exact rfl)); (focus (exact rfl)); (focus (exact rfl)); intro w5 b5 H5; clear H; have H := H5; clear H5)
      | ((with_reducible apply hpA_store tymsg_Request H); (focus (exact rfl)); (focus (exact rfl)); (focus (exact rfl)); (focus (exact rfl)); (focus (exact rfl)); (focus (repeat (first | apply Put.head | apply Put.tail))); (focus (first | (simp; done) | (simp [*]; done) | (simp [Value.oneCell']; done))); (focus (first | (simp; done) | (simp [*]; done) | (simp [Value.oneCell']; done))); (focus ((try simp only [spl]); exact rfl)); (focus (exact rfl)); intro w5 H5; clear H; have H := H5; clear H5)
      | ((with_reducible apply hpA_load1 tyint H); (focus (exact rfl)); (focus (exact rfl)); (focus (first | (exact rfl) | (simp [Region.wanted]; done) | (simp only [Region.wanted]; go_simp; done))); (focus (repeat (first | exact List.Mem.head _ | apply List.Mem.tail))); (focus ((try simp only [List.getElem?_cons_zero, List.getElem?_cons_succ]); exact rfl)))
      | ((with_reducible apply hpA_load tymsg_part H); (focus (exact rfl)); (focus (exact rfl)); (focus (first | (exact rfl) | (simp [Region.wanted]; done) | (simp only [Region.wanted]; go_simp; done))); (focus (repeat (first | exact List.Mem.head _ | apply List.Mem.tail))); (focus ((try simp only [List.drop_zero, List.drop_succ_cons, List.take_succ_cons, List.take_zero]); exact rfl)); (focus (exact rfl)))
      | ((with_reducible apply hpN_alloc tymsg_part 9 H); (focus (exact rfl)); (focus (exact rfl)); (focus (exact rfl)); intro w5 b9 H5; clear H; have H := H5; clear H5)
      | ((with_reducible apply hpA_store tymsg_part H); (focus (exact rfl)); (focus (exact rfl)); (focus (exact rfl)); (focus (exact rfl)); (focus (exact rfl)); (focus (repeat (first | apply Put.head | apply Put.tail))); (focus (first | (simp; done) | (simp [*]; done) | (simp [Value.oneCell']; done))); (focus (first | (simp; done) | (simp [*]; done) | (simp [Value.oneCell']; done))); (focus ((try simp only [spl]); exact rfl)); (focus (exact rfl)); intro w5 H5; clear H; have H := H5; clear H5)
      | ((with_reducible apply hpA_load1 tyfunc_P_pack_In__P_msg_Request_ H); (focus (exact rfl)); (focus (exact rfl)); (focus (first | (exact rfl) | (simp [Region.wanted]; done) | (simp only [Region.wanted]; go_simp; done))); (focus (repeat (first | exact List.Mem.head _ | apply List.Mem.tail))); (focus ((try simp only [List.getElem?_cons_zero, List.getElem?_cons_succ]); exact rfl)))
      | ((with_reducible apply hpA_load tymsg_Request H); (focus (exact rfl)); (focus (exact rfl)); (focus (first | (exact rfl) | (simp [Region.wanted]; done) | (simp only [Region.wanted]; go_simp; done))); (focus (repeat (first | exact List.Mem.head _ | apply List.Mem.tail))); (focus ((try simp only [List.drop_zero, List.drop_succ_cons, List.take_succ_cons, List.take_zero]); exact rfl)); (focus (exact rfl))))
          | (go_at_call 76; (with_reducible refine (inOfH H).mono ?_); rintro e w5 ⟨bi, rfl, H5⟩; clear H; have H := H5; clear H5)
          | (go_at_call 77; (refine (inNumH H (i := 0) rfl).mono ?_); rintro e w5 ⟨rfl, H5⟩; simp only [List.set_cons_zero] at H5; clear H; have H := H5; clear H5)
          | (go_at_call 72; (with_reducible refine (partsC _ _).mono ?_); rintro e w5 ⟨v4, rfl, F4, hps, hf, ho⟩; obtain ⟨fs4, hps⟩ := hps; obtain ⟨a4, c4, rfl⟩ := PfAt.form (v := v4) hps; have H5 := Lib.hid (H.out.push (rPf F4 _ fs4 _) ho hps hf); clear H hps hf ho; have H := H5; clear H5)
          | (go_at_call 44; (refine (writeC q HV.out _).mono ?_); rintro e w5 ⟨rfl, ho⟩; have H5 := Lib.hid (H.out.quiet ho); clear H ho; have H := H5; clear H5)
          | (go_at_call 78; (refine (inEndH H (i := 2) rfl).mono ?_); rintro e w5 ⟨rfl, rfl⟩))
        (try simp only [Exit.inBlock, Exit.then])
        apply hp_ret_ct tymsg_Request H
        · exact rfl
        · exact rfl
        · exact rfl
        · exact rfl
        · (repeat (first | exact List.Mem.head _ | apply List.Mem.tail))
        · exact rfl
        · exact ⟨by rw [HX.out]; simp [noReq], H.out.off⟩
      | true =>
        rcases Bool.eq_false_or_eq_true (!bad && t.toList.isEmpty) with q1 | q1
        · rcases Bool.eq_false_or_eq_true ((writeV q).2 != 0) with q2 | q2
          · skip
            go_wp2_with (first
              | ((with_reducible apply g_mem); (focus (exact rfl)); first
      | ((with_reducible apply hpN_alloc tymsg_Request 2 H); (focus (exact rfl)); (focus (exact rfl)); (focus (exact rfl)); intro w5 b2 H5; clear H; have H := H5; clear H5)
      | ((with_reducible apply hpN_alloc tymsg_Request 5 H); (focus (exact rfl)); (focus (exact rfl)); (focus (exact rfl)); intro w5 b5 H5; clear H; have H := H5; clear H5)
      | ((with_reducible apply hpA_store tymsg_Request H); (focus (exact rfl)); (focus (exact rfl)); (focus (exact rfl)); (focus (exact rfl)); (focus (exact rfl)); (focus (repeat (first | apply Put.head | apply Put.tail))); (focus (first | (simp; done) | (simp [*]; done) | (simp [Value.oneCell']; done))); (focus (first | (simp; done) | (simp [*]; done) | (simp [Value.oneCell']; done))); (focus ((try simp only [spl]); exact rfl)); (focus (exact rfl)); intro w5 H5; clear H; have H := H5; clear H5)
      | ((with_reducible apply hpA_load1 tyint H); (focus (exact rfl)); (focus (exact rfl)); (focus (first | (exact rfl) | (simp [Region.wanted]; done) | (simp only [Region.wanted]; go_simp; done))); (focus (repeat (first | exact List.Mem.head _ | apply List.Mem.tail))); (focus ((try simp only [List.getElem?_cons_zero, List.getElem?_cons_succ]); exact rfl)))
      | ((with_reducible apply hpA_load tymsg_part H); (focus (exact rfl)); (focus (exact rfl)); (focus (first | (exact rfl) | (simp [Region.wanted]; done) | (simp only [Region.wanted]; go_simp; done))); (focus (repeat (first | exact List.Mem.head _ | apply List.Mem.tail))); (focus ((try simp only [List.drop_zero, List.drop_succ_cons, List.take_succ_cons, List.take_zero]); exact rfl)); (focus (exact rfl)))
      | ((with_reducible apply hpN_alloc tymsg_part 9 H); (focus (exact rfl)); (focus (exact rfl)); (focus (exact rfl)); intro w5 b9 H5; clear H; have H := H5; clear H5)
      | ((with_reducible apply hpA_store tymsg_part H); (focus (exact rfl)); (focus (exact rfl)); (focus (exact rfl)); (focus (exact rfl)); (focus (exact rfl)); (focus (repeat (first | apply Put.head | apply Put.tail))); (focus (first | (simp; done) | (simp [*]; done) | (simp [Value.oneCell']; done))); (focus (first | (simp; done) | (simp [*]; done) | (simp [Value.oneCell']; done))); (focus ((try simp only [spl]); exact rfl)); (focus (exact rfl)); intro w5 H5; clear H; have H := H5; clear H5)
      | ((with_reducible apply hpA_load1 tyfunc_P_pack_In__P_msg_Request_ H); (focus (exact rfl)); (focus (exact rfl)); (focus (first | (exact rfl) | (simp [Region.wanted]; done) | (simp only [Region.wanted]; go_simp; done))); (focus (repeat (first | exact List.Mem.head _ | apply List.Mem.tail))); (focus ((try simp only [List.getElem?_cons_zero, List.getElem?_cons_succ]); exact rfl)))
      | ((with_reducible apply hpA_load tymsg_Request H); (focus (exact rfl)); (focus (exact rfl)); (focus (first | (exact rfl) | (simp [Region.wanted]; done) | (simp only [Region.wanted]; go_simp; done))); (focus (repeat (first | exact List.Mem.head _ | apply List.Mem.tail))); (focus ((try simp only [List.drop_zero, List.drop_succ_cons, List.take_succ_cons, List.take_zero]); exact rfl)); (focus (exact rfl))))
              | (go_at_call 76; (with_reducible refine (inOfH H).mono ?_); rintro e w5 ⟨bi, rfl, H5⟩; clear H; have H := H5; clear H5)
              | (go_at_call 77; (refine (inNumH H (i := 0) rfl).mono ?_); rintro e w5 ⟨rfl, H5⟩; simp only [List.set_cons_zero] at H5; clear H; have H := H5; clear H5)
              | (go_at_call 72; (with_reducible refine (partsC _ _).mono ?_); rintro e w5 ⟨v4, rfl, F4, hps, hf, ho⟩; obtain ⟨fs4, hps⟩ := hps; obtain ⟨a4, c4, rfl⟩ := PfAt.form (v := v4) hps; have H5 := Lib.hid (H.out.push (rPf F4 _ fs4 _) ho hps hf); clear H hps hf ho; have H := H5; clear H5)
              | (go_at_call 44; (refine (writeC q HV.out _).mono ?_); rintro e w5 ⟨rfl, ho⟩; have H5 := Lib.hid (H.out.quiet ho); clear H ho; have H := H5; clear H5)
              | (go_at_call 78; (refine (inEndH H (i := 2) rfl).mono ?_); rintro e w5 ⟨rfl, rfl⟩))
            (try simp only [Exit.inBlock, Exit.then])
            apply hp_ret_ct tymsg_Request H
            · exact rfl
            · exact rfl
            · exact rfl
            · exact rfl
            · (repeat (first | exact List.Mem.head _ | apply List.Mem.tail))
            · exact rfl
            · exact ⟨by rw [HX.out]; simp [q1, q2, noReq], H.out.off⟩
          · rcases Bool.eq_false_or_eq_true (!(writeV q).1.toList == s.toList) with q3 | q3
            · skip
              go_wp2_with (first
                | ((with_reducible apply g_mem); (focus (exact rfl)); first
      | ((with_reducible apply hpN_alloc tymsg_Request 2 H); (focus (exact rfl)); (focus (exact rfl)); (focus (exact rfl)); intro w5 b2 H5; clear H; have H := H5; clear H5)
      | ((with_reducible apply hpN_alloc tymsg_Request 5 H); (focus (exact rfl)); (focus (exact rfl)); (focus (exact rfl)); intro w5 b5 H5; clear H; have H := H5; clear H5)
      | ((with_reducible apply hpA_store tymsg_Request H); (focus (exact rfl)); (focus (exact rfl)); (focus (exact rfl)); (focus (exact rfl)); (focus (exact rfl)); (focus (repeat (first | apply Put.head | apply Put.tail))); (focus (first | (simp; done) | (simp [*]; done) | (simp [Value.oneCell']; done))); (focus (first | (simp; done) | (simp [*]; done) | (simp [Value.oneCell']; done))); (focus ((try simp only [spl]); exact rfl)); (focus (exact rfl)); intro w5 H5; clear H; have H := H5; clear H5)
      | ((with_reducible apply hpA_load1 tyint H); (focus (exact rfl)); (focus (exact rfl)); (focus (first | (exact rfl) | (simp [Region.wanted]; done) | (simp only [Region.wanted]; go_simp; done))); (focus (repeat (first | exact List.Mem.head _ | apply List.Mem.tail))); (focus ((try simp only [List.getElem?_cons_zero, List.getElem?_cons_succ]); exact rfl)))
      | ((with_reducible apply hpA_load tymsg_part H); (focus (exact rfl)); (focus (exact rfl)); (focus (first | (exact rfl) | (simp [Region.wanted]; done) | (simp only [Region.wanted]; go_simp; done))); (focus (repeat (first | exact List.Mem.head _ | apply List.Mem.tail))); (focus ((try simp only [List.drop_zero, List.drop_succ_cons, List.take_succ_cons, List.take_zero]); exact rfl)); (focus (exact rfl)))
      | ((with_reducible apply hpN_alloc tymsg_part 9 H); (focus (exact rfl)); (focus (exact rfl)); (focus (exact rfl)); intro w5 b9 H5; clear H; have H := H5; clear H5)
      | ((with_reducible apply hpA_store tymsg_part H); (focus (exact rfl)); (focus (exact rfl)); (focus (exact rfl)); (focus (exact rfl)); (focus (exact rfl)); (focus (repeat (first | apply Put.head | apply Put.tail))); (focus (first | (simp; done) | (simp [*]; done) | (simp [Value.oneCell']; done))); (focus (first | (simp; done) | (simp [*]; done) | (simp [Value.oneCell']; done))); (focus ((try simp only [spl]); exact rfl)); (focus (exact rfl)); intro w5 H5; clear H; have H := H5; clear H5)
      | ((with_reducible apply hpA_load1 tyfunc_P_pack_In__P_msg_Request_ H); (focus (exact rfl)); (focus (exact rfl)); (focus (first | (exact rfl) | (simp [Region.wanted]; done) | (simp only [Region.wanted]; go_simp; done))); (focus (repeat (first | exact List.Mem.head _ | apply List.Mem.tail))); (focus ((try simp only [List.getElem?_cons_zero, List.getElem?_cons_succ]); exact rfl)))
      | ((with_reducible apply hpA_load tymsg_Request H); (focus (exact rfl)); (focus (exact rfl)); (focus (first | (exact rfl) | (simp [Region.wanted]; done) | (simp only [Region.wanted]; go_simp; done))); (focus (repeat (first | exact List.Mem.head _ | apply List.Mem.tail))); (focus ((try simp only [List.drop_zero, List.drop_succ_cons, List.take_succ_cons, List.take_zero]); exact rfl)); (focus (exact rfl))))
                | (go_at_call 76; (with_reducible refine (inOfH H).mono ?_); rintro e w5 ⟨bi, rfl, H5⟩; clear H; have H := H5; clear H5)
                | (go_at_call 77; (refine (inNumH H (i := 0) rfl).mono ?_); rintro e w5 ⟨rfl, H5⟩; simp only [List.set_cons_zero] at H5; clear H; have H := H5; clear H5)
                | (go_at_call 72; (with_reducible refine (partsC _ _).mono ?_); rintro e w5 ⟨v4, rfl, F4, hps, hf, ho⟩; obtain ⟨fs4, hps⟩ := hps; obtain ⟨a4, c4, rfl⟩ := PfAt.form (v := v4) hps; have H5 := Lib.hid (H.out.push (rPf F4 _ fs4 _) ho hps hf); clear H hps hf ho; have H := H5; clear H5)
                | (go_at_call 44; (refine (writeC q HV.out _).mono ?_); rintro e w5 ⟨rfl, ho⟩; have H5 := Lib.hid (H.out.quiet ho); clear H ho; have H := H5; clear H5)
                | (go_at_call 78; (refine (inEndH H (i := 2) rfl).mono ?_); rintro e w5 ⟨rfl, rfl⟩))
              (try simp only [Exit.inBlock, Exit.then])
              apply hp_ret_ct tymsg_Request H
              · exact rfl
              · exact rfl
              · exact rfl
              · exact rfl
              · (repeat (first | exact List.Mem.head _ | apply List.Mem.tail))
              · exact rfl
              · exact ⟨by rw [HX.out]; simp [q1, q2, q3, noReq], H.out.off⟩
            · skip
              go_wp2_with (first
                | ((with_reducible apply g_mem); (focus (exact rfl)); first
      | ((with_reducible apply hpN_alloc tymsg_Request 2 H); (focus (exact rfl)); (focus (exact rfl)); (focus (exact rfl)); intro w5 b2 H5; clear H; have H := H5; clear H5)
      | ((with_reducible apply hpN_alloc tymsg_Request 5 H); (focus (exact rfl)); (focus (exact rfl)); (focus (exact rfl)); intro w5 b5 H5; clear H; have H := H5; clear H5)
      | ((with_reducible apply hpA_store tymsg_Request H); (focus (exact rfl)); (focus (exact rfl)); (focus (exact rfl)); (focus (exact rfl)); (focus (exact rfl)); (focus (repeat (first | apply Put.head | apply Put.tail))); (focus (first | (simp; done) | (simp [*]; done) | (simp [Value.oneCell']; done))); (focus (first | (simp; done) | (simp [*]; done) | (simp [Value.oneCell']; done))); (focus ((try simp only [spl]); exact rfl)); (focus (exact rfl)); intro w5 H5; clear H; have H := H5; clear H5)
      | ((with_reducible apply hpA_load1 tyint H); (focus (exact rfl)); (focus (exact rfl)); (focus (first | (exact rfl) | (simp [Region.wanted]; done) | (simp only [Region.wanted]; go_simp; done))); (focus (repeat (first | exact List.Mem.head _ | apply List.Mem.tail))); (focus ((try simp only [List.getElem?_cons_zero, List.getElem?_cons_succ]); exact rfl)))
      | ((with_reducible apply hpA_load tymsg_part H); (focus (exact rfl)); (focus (exact rfl)); (focus (first | (exact rfl) | (simp [Region.wanted]; done) | (simp only [Region.wanted]; go_simp; done))); (focus (repeat (first | exact List.Mem.head _ | apply List.Mem.tail))); (focus ((try simp only [List.drop_zero, List.drop_succ_cons, List.take_succ_cons, List.take_zero]); exact rfl)); (focus (exact rfl)))
      | ((with_reducible apply hpN_alloc tymsg_part 9 H); (focus (exact rfl)); (focus (exact rfl)); (focus (exact rfl)); intro w5 b9 H5; clear H; have H := H5; clear H5)
      | ((with_reducible apply hpA_store tymsg_part H); (focus (exact rfl)); (focus (exact rfl)); (focus (exact rfl)); (focus (exact rfl)); (focus (exact rfl)); (focus (repeat (first | apply Put.head | apply Put.tail))); (focus (first | (simp; done) | (simp [*]; done) | (simp [Value.oneCell']; done))); (focus (first | (simp; done) | (simp [*]; done) | (simp [Value.oneCell']; done))); (focus ((try simp only [spl]); exact rfl)); (focus (exact rfl)); intro w5 H5; clear H; have H := H5; clear H5)
      | ((with_reducible apply hpA_load1 tyfunc_P_pack_In__P_msg_Request_ H); (focus (exact rfl)); (focus (exact rfl)); (focus (first | (exact rfl) | (simp [Region.wanted]; done) | (simp only [Region.wanted]; go_simp; done))); (focus (repeat (first | exact List.Mem.head _ | apply List.Mem.tail))); (focus ((try simp only [List.getElem?_cons_zero, List.getElem?_cons_succ]); exact rfl)))
      | ((with_reducible apply hpA_load tymsg_Request H); (focus (exact rfl)); (focus (exact rfl)); (focus (first | (exact rfl) | (simp [Region.wanted]; done) | (simp only [Region.wanted]; go_simp; done))); (focus (repeat (first | exact List.Mem.head _ | apply List.Mem.tail))); (focus ((try simp only [List.drop_zero, List.drop_succ_cons, List.take_succ_cons, List.take_zero]); exact rfl)); (focus (exact rfl))))
                | (go_at_call 76; (with_reducible refine (inOfH H).mono ?_); rintro e w5 ⟨bi, rfl, H5⟩; clear H; have H := H5; clear H5)
                | (go_at_call 77; (refine (inNumH H (i := 0) rfl).mono ?_); rintro e w5 ⟨rfl, H5⟩; simp only [List.set_cons_zero] at H5; clear H; have H := H5; clear H5)
                | (go_at_call 72; (with_reducible refine (partsC _ _).mono ?_); rintro e w5 ⟨v4, rfl, F4, hps, hf, ho⟩; obtain ⟨fs4, hps⟩ := hps; obtain ⟨a4, c4, rfl⟩ := PfAt.form (v := v4) hps; have H5 := Lib.hid (H.out.push (rPf F4 _ fs4 _) ho hps hf); clear H hps hf ho; have H := H5; clear H5)
                | (go_at_call 44; (refine (writeC q HV.out _).mono ?_); rintro e w5 ⟨rfl, ho⟩; have H5 := Lib.hid (H.out.quiet ho); clear H ho; have H := H5; clear H5)
                | (go_at_call 78; (refine (inEndH H (i := 2) rfl).mono ?_); rintro e w5 ⟨rfl, rfl⟩))
              (try simp only [Exit.inBlock, Exit.then])
              apply hp_ret_ct tymsg_Request H
              · exact rfl
              · exact rfl
              · exact rfl
              · exact rfl
              · (repeat (first | exact List.Mem.head _ | apply List.Mem.tail))
              · exact rfl
              · exact ⟨by rw [HX.out]; simp [q1, q2, q3, noReq], H.out.off⟩
        · skip
          go_wp2_with (first
            | ((with_reducible apply g_mem); (focus (exact rfl)); first
      | ((with_reducible apply hpN_alloc tymsg_Request 2 H); (focus (exact rfl)); (focus (exact rfl)); (focus (exact rfl)); intro w5 b2 H5; clear H; have H := H5; clear H5)
      | ((with_reducible apply hpN_alloc tymsg_Request 5 H); (focus (exact rfl)); (focus (exact rfl)); (focus (exact rfl)); intro w5 b5 H5; clear H; have H := H5; clear H5)
      | ((with_reducible apply hpA_store tymsg_Request H); (focus (exact rfl)); (focus (exact rfl)); (focus (exact rfl)); (focus (exact rfl)); (focus (exact rfl)); (focus (repeat (first | apply Put.head | apply Put.tail))); (focus (first | (simp; done) | (simp [*]; done) | (simp [Value.oneCell']; done))); (focus (first | (simp; done) | (simp [*]; done) | (simp [Value.oneCell']; done))); (focus ((try simp only [spl]); exact rfl)); (focus (exact rfl)); intro w5 H5; clear H; have H := H5; clear H5)
      | ((with_reducible apply hpA_load1 tyint H); (focus (exact rfl)); (focus (exact rfl)); (focus (first | (exact rfl) | (simp [Region.wanted]; done) | (simp only [Region.wanted]; go_simp; done))); (focus (repeat (first | exact List.Mem.head _ | apply List.Mem.tail))); (focus ((try simp only [List.getElem?_cons_zero, List.getElem?_cons_succ]); exact rfl)))
      | ((with_reducible apply hpA_load tymsg_part H); (focus (exact rfl)); (focus (exact rfl)); (focus (first | (exact rfl) | (simp [Region.wanted]; done) | (simp only [Region.wanted]; go_simp; done))); (focus (repeat (first | exact List.Mem.head _ | apply List.Mem.tail))); (focus ((try simp only [List.drop_zero, List.drop_succ_cons, List.take_succ_cons, List.take_zero]); exact rfl)); (focus (exact rfl)))
      | ((with_reducible apply hpN_alloc tymsg_part 9 H); (focus (exact rfl)); (focus (exact rfl)); (focus (exact rfl)); intro w5 b9 H5; clear H; have H := H5; clear H5)
      | ((with_reducible apply hpA_store tymsg_part H); (focus (exact rfl)); (focus (exact rfl)); (focus (exact rfl)); (focus (exact rfl)); (focus (exact rfl)); (focus (repeat (first | apply Put.head | apply Put.tail))); (focus (first | (simp; done) | (simp [*]; done) | (simp [Value.oneCell']; done))); (focus (first | (simp; done) | (simp [*]; done) | (simp [Value.oneCell']; done))); (focus ((try simp only [spl]); exact rfl)); (focus (exact rfl)); intro w5 H5; clear H; have H := H5; clear H5)
      | ((with_reducible apply hpA_load1 tyfunc_P_pack_In__P_msg_Request_ H); (focus (exact rfl)); (focus (exact rfl)); (focus (first | (exact rfl) | (simp [Region.wanted]; done) | (simp only [Region.wanted]; go_simp; done))); (focus (repeat (first | exact List.Mem.head _ | apply List.Mem.tail))); (focus ((try simp only [List.getElem?_cons_zero, List.getElem?_cons_succ]); exact rfl)))
      | ((with_reducible apply hpA_load tymsg_Request H); (focus (exact rfl)); (focus (exact rfl)); (focus (first | (exact rfl) | (simp [Region.wanted]; done) | (simp only [Region.wanted]; go_simp; done))); (focus (repeat (first | exact List.Mem.head _ | apply List.Mem.tail))); (focus ((try simp only [List.drop_zero, List.drop_succ_cons, List.take_succ_cons, List.take_zero]); exact rfl)); (focus (exact rfl))))
            | (go_at_call 76; (with_reducible refine (inOfH H).mono ?_); rintro e w5 ⟨bi, rfl, H5⟩; clear H; have H := H5; clear H5)
            | (go_at_call 77; (refine (inNumH H (i := 0) rfl).mono ?_); rintro e w5 ⟨rfl, H5⟩; simp only [List.set_cons_zero] at H5; clear H; have H := H5; clear H5)
            | (go_at_call 72; (with_reducible refine (partsC _ _).mono ?_); rintro e w5 ⟨v4, rfl, F4, hps, hf, ho⟩; obtain ⟨fs4, hps⟩ := hps; obtain ⟨a4, c4, rfl⟩ := PfAt.form (v := v4) hps; have H5 := Lib.hid (H.out.push (rPf F4 _ fs4 _) ho hps hf); clear H hps hf ho; have H := H5; clear H5)
            | (go_at_call 44; (refine (writeC q HV.out _).mono ?_); rintro e w5 ⟨rfl, ho⟩; have H5 := Lib.hid (H.out.quiet ho); clear H ho; have H := H5; clear H5)
            | (go_at_call 78; (refine (inEndH H (i := 2) rfl).mono ?_); rintro e w5 ⟨rfl, rfl⟩))
          (try simp only [Exit.inBlock, Exit.then])
          apply hp_ret_ct tymsg_Request H
          · exact rfl
          · exact rfl
          · exact rfl
          · exact rfl
          · (repeat (first | exact List.Mem.head _ | apply List.Mem.tail))
          · exact rfl
          · exact ⟨by rw [HX.out]; simp [q1, noReq], H.out.off⟩
end Go.Proofs.YthflkhalipkdgaaGreat.Ms
