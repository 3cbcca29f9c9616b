/- Layer 35: New, Small, awake. -/
import Derived.Test.YthflkhalipkdgaaGreatProg
import Derived.Below
import Derived.WalkKit
import Derived.KernelRfl
import Derived.RowKit3
import Derived.Deep.LoopGhost
import Derived.Deep.QuietTactic
import Derived.BigQuiet
import Derived.WideLaws
import Derived.Deep.DeepCutAuto
import Derived.Deep.CutBlock
import Derived.Lib.Hide
import Derived.Laws.BitsLemmas
import Derived.Laws.Bits64
import Derived.Laws.BitsAllLaws
import Derived.IntWalk
import Derived.Outline
import Derived.WalkSpells
import Derived.Test.YthflkhalipkdgaaGreatGA
import Derived.Test.YthflkhalipkdgaaGreatMn5
namespace Go.Proofs.YthflkhalipkdgaaGreat.Mn
set_option maxRecDepth 20000
open Go.RowKit Go.Proofs.YthflkhalipkdgaaGreat.Mem Go.Proofs.YthflkhalipkdgaaGreat.Reg Go.Proofs.YthflkhalipkdgaaGreat.Wk Go.Proofs.YthflkhalipkdgaaGreat.Si Go.Proofs.YthflkhalipkdgaaGreat.Ca Go.Proofs.YthflkhalipkdgaaGreat.Ms Go.Proofs.YthflkhalipkdgaaGreat.Fr Go.Proofs.YthflkhalipkdgaaGreat.Bld
set_option linter.unusedVariables false
set_option linter.unusedSimpArgs false

theorem ty_9_uint8 : TyI Tryz.prog 94 9 true [.int .u8 0, .int .u8 0, .int .u8 0, .int .u8 0, .int .u8 0, .int .u8 0, .int .u8 0, .int .u8 0, .int .u8 0] := ⟨by kernel_rfl, by kernel_rfl, by kernel_rfl⟩
theorem tyuint8 : TyI Tryz.prog 5 1 false [.int .u8 0] := ⟨by kernel_rfl, by kernel_rfl, by kernel_rfl⟩
theorem tystring : TyI Tryz.prog 9 1 false [.string ⟨#[]⟩] := ⟨by kernel_rfl, by kernel_rfl, by kernel_rfl⟩
def smallV : Cfg := ⟨5, 1, 2, 4, 2, 4, 20, 100, 10, 1000, 2, 4, 4, 2, 0, 1, 1, 7⟩
def seedV (s : Nat) : Nat := bif (s : Int) == 0 then 88172645463325252 else s
theorem seedV_lt {s : Nat} (h : s < 18446744073709551616) : seedV s < 18446744073709551616 := by
  unfold seedV
  cases ((s : Int) == 0)
  · exact h
  · exact (by decide : (88172645463325252 : Nat) < 18446744073709551616)
section
variable {S : List Nat} {w0 w w' : World} {R : List Res} {a : Option Addr} {c k : Nat} {rows : List (List Value)}
theorem hp_gotBk {b : Nat} {t : TypeId} {cs : List Value} (H : Hid (Hp S w0 w R)) (ho : Off [] w w') (hb : Blk w' b cs.toArray t) (hf : w.heap.size ≤ b) : Hid (Hp S w0 w' (rB b t cs :: R)) :=
  Lib.hid (H.out.push _ ho hb fun q hq => by
    obtain rfl : q = b := by simpa [rB] using hq
    exact ⟨hf, hb.lt⟩)
theorem hp_gone {b : Nat} {t : TypeId} {cs : List Value} (H : Hid (Hp S w0 w R)) (i : Nat) (hi : R[i]? = some (rB b t cs)) (ho : Off [b] w w') (hh : (rS a c k rows).holds w') (hk : 0 < k) (hf : ∀ q ∈ (rS a c k rows).foot, w.heap.size ≤ q) : Hid (Hp S w0 w' (R.set i (rS a c k rows))) :=
  Lib.hid (H.out.step i hi _ ho (fun q hq => by simpa [rB] using hq) hh fun q hq => ⟨.inr (hf q hq), rS_lt hh hk q hq⟩)
end
theorem wrap8_mod (x : Int) : IntKind.u8.wrap (x % 256) = IntKind.u8.wrap x := by
  rw [IntKind.wrap_u8, IntKind.wrap_u8]
  omega
instance : DecidableEq EvV := fun x y => if h : x.kind = y.kind ∧ x.n = y.n ∧ x.data = y.data then isTrue (by rcases x with ⟨_, _, _⟩; rcases y with ⟨_, _, _⟩; simp_all) else isFalse (fun e => h (by subst e; simp))
set_option maxRecDepth 20000 in
set_option maxHeartbeats 16000000 in
theorem run_eq_event (X Y : EvV) (w : World) : (Op.equalIn 10000 53 (.agg #[.int .i64 X.kind, .int .i64 X.n, .string X.data]) (.agg #[.int .i64 Y.kind, .int .i64 Y.n, .string Y.data])).run Tryz.prog w = .ok (decide (X = Y)) w := by
  have u_i64 := Tryz.underlying3
  have u_str := Tryz.underlying9
  rw [show (10000 : Nat) = 9999 + 1 from rfl]
  go_simp
  clear u_i64 u_str
  by_cases he : X = Y
  · subst he
    simp
  · have hf : decide (X = Y) = false := by simpa using he
    rw [hf]
    iterate 3 (refine if_chainR fun _ => ?_)
    exfalso
    refine he ?_
    obtain ⟨x1, x2, x3⟩ := X
    obtain ⟨y1, y2, y3⟩ := Y
    simp_all [strEq]
theorem run_eq_event_same (X : EvV) (w : World) : (Op.equalIn 10000 53 (.agg #[.int .i64 X.kind, .int .i64 X.n, .string X.data]) (.agg #[.int .i64 X.kind, .int .i64 X.n, .string X.data])).run Tryz.prog w = .ok true w := by
  have h := run_eq_event X X w
  rwa [decide_eq_true rfl] at h
instance : DecidableEq ReqV := fun x y => if h : x.kind = y.kind ∧ x.seq = y.seq ∧ x.who = y.who ∧ x.role = y.role ∧ x.token = y.token ∧ x.key = y.key ∧ x.call.id = y.call.id ∧ x.call.kind = y.call.kind ∧ x.call.src = y.call.src ∧ x.call.dst = y.call.dst ∧ x.call.car = y.call.car ∧ x.call.state = y.call.state ∧ x.call.owner = y.call.owner ∧ x.call.born = y.call.born ∧ x.id = y.id ∧ x.car = y.car ∧ x.mode = y.mode ∧ x.filter.kind = y.filter.kind ∧ x.filter.n = y.filter.n then isTrue (by rcases x with ⟨_, _, _, _, _, _, ⟨_, _, _, _, _, _, _, _⟩, _, _, _, ⟨_, _⟩⟩; rcases y with ⟨_, _, _, _, _, _, ⟨_, _, _, _, _, _, _, _⟩, _, _, _, ⟨_, _⟩⟩; simp_all) else isFalse (fun e => h (by subst e; simp))
set_option maxRecDepth 20000 in
set_option maxHeartbeats 16000000 in
theorem run_eq_req (X Y : ReqV) (w : World) : (Op.equalIn 10000 43 (.agg #[.int .i64 X.kind, .int .i64 X.seq, .int .i64 X.who, .int .i64 X.role, .int .u32 X.token, .int .u64 X.key, .int .i64 X.call.id, .int .i64 X.call.kind, .int .i64 X.call.src, .int .i64 X.call.dst, .int .i64 X.call.car, .int .i64 X.call.state, .int .i64 X.call.owner, .int .i64 X.call.born, .int .i64 X.id, .int .i64 X.car, .int .i64 X.mode, .int .i64 X.filter.kind, .int .i64 X.filter.n]) (.agg #[.int .i64 Y.kind, .int .i64 Y.seq, .int .i64 Y.who, .int .i64 Y.role, .int .u32 Y.token, .int .u64 Y.key, .int .i64 Y.call.id, .int .i64 Y.call.kind, .int .i64 Y.call.src, .int .i64 Y.call.dst, .int .i64 Y.call.car, .int .i64 Y.call.state, .int .i64 Y.call.owner, .int .i64 Y.call.born, .int .i64 Y.id, .int .i64 Y.car, .int .i64 Y.mode, .int .i64 Y.filter.kind, .int .i64 Y.filter.n])).run Tryz.prog w = .ok (decide (X = Y)) w := by
  have u_i64 := Tryz.underlying3
  have u_u32 := Tryz.underlying23
  have u_u64 := Tryz.underlying22
  have us0 := Tryz.underlying40
  have us1 := Tryz.underlying41
  rw [show (10000 : Nat) = 9999 + 1 from rfl]
  go_simp
  clear u_i64 u_u32 u_u64 us0 us1
  by_cases he : X = Y
  · subst he
    simp
  · have hf : decide (X = Y) = false := by simpa using he
    rw [hf]
    iterate 19 (refine if_chainR fun _ => ?_)
    exfalso
    refine he ?_
    obtain ⟨x1, x2, x3, x4, x5, x6, ⟨x7, x8, x9, x10, x11, x12, x13, x14⟩, x15, x16, x17, ⟨x18, x19⟩⟩ := X
    obtain ⟨y1, y2, y3, y4, y5, y6, ⟨y7, y8, y9, y10, y11, y12, y13, y14⟩, y15, y16, y17, ⟨y18, y19⟩⟩ := Y
    simp_all
theorem run_eq_req_same (X : ReqV) (w : World) : (Op.equalIn 10000 43 (.agg #[.int .i64 X.kind, .int .i64 X.seq, .int .i64 X.who, .int .i64 X.role, .int .u32 X.token, .int .u64 X.key, .int .i64 X.call.id, .int .i64 X.call.kind, .int .i64 X.call.src, .int .i64 X.call.dst, .int .i64 X.call.car, .int .i64 X.call.state, .int .i64 X.call.owner, .int .i64 X.call.born, .int .i64 X.id, .int .i64 X.car, .int .i64 X.mode, .int .i64 X.filter.kind, .int .i64 X.filter.n]) (.agg #[.int .i64 X.kind, .int .i64 X.seq, .int .i64 X.who, .int .i64 X.role, .int .u32 X.token, .int .u64 X.key, .int .i64 X.call.id, .int .i64 X.call.kind, .int .i64 X.call.src, .int .i64 X.call.dst, .int .i64 X.call.car, .int .i64 X.call.state, .int .i64 X.call.owner, .int .i64 X.call.born, .int .i64 X.id, .int .i64 X.car, .int .i64 X.mode, .int .i64 X.filter.kind, .int .i64 X.filter.n])).run Tryz.prog w = .ok true w := by
  have h := run_eq_req X X w
  rwa [decide_eq_true rfl] at h
set_option maxHeartbeats 16000000 in
set_option maxRecDepth 20000 in
theorem smallC  (w : World) : Calls Tryz.prog 18 #[] w fun e w' => e = .returned (.agg (cA smallV)) ∧ Off [] w w' := by
 have H := Lib.hid (Hp.start [] w)
 refine wStart (args := []) Tryz.func18 rfl rfl rfl H ?_
 clear H
 show Wk 2 _ _ [] _ _
 refine wSeqK fun KK1 hK1 => ?_
 refine wReg ?_
 refine wAl rfl rfl tyapi_Config fun b0 => ?_
 refine wN ?_
 refine tN (wKK hK1 ?_)
 refine wSeqK fun KK2 hK2 => ?_
 refine wReg ?_
 refine wE (.agg #[.int .i64 5, .int .i64 1, .int .i64 2, .int .i64 4, .int .i64 2, .int .i64 4, .int .i64 20, .int .i64 100, .int .i64 10, .int .i64 1000, .int .i64 2, .int .i64 4, .int .i64 4, .int .i64 2, .int .i64 0, .int .i64 1, .int .i64 1, .int .u32 7]) rfl rfl rfl (fun aa ww hs _ => by simp only [execOp]; go_simp <;> first | rfl | omega) ?_
 refine wSr rfl tyapi_Config 0 rfl rfl rfl rfl [.int .i64 5, .int .i64 1, .int .i64 2, .int .i64 4, .int .i64 2, .int .i64 4, .int .i64 20, .int .i64 100, .int .i64 10, .int .i64 1000, .int .i64 2, .int .i64 4, .int .i64 4, .int .i64 2, .int .i64 0, .int .i64 1, .int .i64 1, .int .u32 7] (by first | rfl | (simp only [spl]; rfl)) ?_
 refine wN ?_
 refine tN (wKK hK2 ?_)
 refine wRet ?_
 exact wRc tyapi_Config rfl rfl 0 rfl rfl (fun ww H => ⟨rfl, H.out.off⟩)
def tab_newC : Wk.Tab := []
theorem p_newC {ops : Array Oper} {rest : List Oper} {o : Oper} {w0 : World} {Q : Exit → Act → World → Prop} {S : List Nat} {R : List Res} {K K' : Wk.Env} {N : Nat} (h : Wk.stp tab_newC N ops K o = some K') (n : Wk.Wk N S w0 K' R (wpList Tryz.prog ops Q rest)) : Wk.Wk N S w0 K R (wpList Tryz.prog ops Q (o :: rest)) := Wk.wP (T := tab_newC) (by kernel_rfl) h n
set_option maxHeartbeats 16000000 in
set_option maxRecDepth 20000 in
theorem newC (s : Nat) (w : World) : Calls Tryz.prog 6 #[.int .u64 s] w fun e w' => ∃ b, e = .returned (.pointer (some ⟨b, 0, none⟩)) ∧ Blk w' b #[.int .u64 (seedV s)] 61 ∧ w.heap.size ≤ b ∧ Off [] w w' := by
 have H := Lib.hid (Hp.start [] w)
 refine wStart (args := [.int .u64 s]) Tryz.func6 rfl rfl rfl H ?_
 clear H
 show Wk 8 _ _ [(0, .int .u64 s)] _ _
 refine wSeqK fun KK1 hK1 => ?_
 refine wReg ?_
 refine p_newC rfl ?_
 refine wN ?_
 refine tN (wKK hK1 ?_)
 refine wSeqK fun KK2 hK2 => ?_
 refine wSeqK fun KK3 hK3 => ?_
 refine wReg ?_
 iterate 2 refine p_newC rfl ?_
 refine wN ?_
 refine tN (wKK hK3 ?_)
 refine wCond (E := (s : Int) == 0) rfl (fun z1 => ?_) (fun z1 => ?_)
 · skip
   have z1o : ((s : Int) != 0) = false := eqq_t z1
   refine wReg ?_
   refine p_newC rfl ?_
   refine wN ?_
   refine tN (wKK hK2 ?_)
   refine wSeqK fun KK4 hK4 => ?_
   refine wReg ?_
   refine p_newC rfl ?_
   refine wE (.agg #[.int .u64 88172645463325252]) rfl rfl rfl (fun aa ww hs _ => by have e5 := hs 5 _ rfl; have g5 := gt_of e5; simp only [execOp]; go_simp <;> first | rfl | omega) ?_
   refine wBx rfl rfl rfl fun b7 => ?_
   refine p_newC rfl ?_
   refine wN ?_
   refine tN (wKK hK4 ?_)
   refine wRet ?_
   exact wR1 rfl rfl (fun ww H => ⟨b7, by rfl, (by simp only [seedV, z1, z1o, cond_true, cond_false]; exact H.out.blk 0 rfl), (H.out.newf _ (List.mem_of_getElem? (i := 0) rfl) rfl _ (by simp [rB])).resolve_left (by simp), H.out.off⟩)
 · skip
   have z1o : ((s : Int) != 0) = true := eqq_f z1
   refine wSk ?_
   refine tN (wKK hK2 ?_)
   refine wSeqK fun KK5 hK5 => ?_
   refine wReg ?_
   refine p_newC rfl ?_
   refine wE (.agg #[.int .u64 s]) rfl rfl rfl (fun aa ww hs _ => by have e5 := hs 5 _ rfl; have g5 := gt_of e5; simp only [execOp]; go_simp <;> first | rfl | omega) ?_
   refine wBx rfl rfl rfl fun b7 => ?_
   refine p_newC rfl ?_
   refine wN ?_
   refine tN (wKK hK5 ?_)
   refine wRet ?_
   exact wR1 rfl rfl (fun ww H => ⟨b7, by rfl, (by simp only [seedV, z1, z1o, cond_true, cond_false]; exact H.out.blk 0 rfl), (H.out.newf _ (List.mem_of_getElem? (i := 0) rfl) rfl _ (by simp [rB])).resolve_left (by simp), H.out.off⟩)
theorem q32 {s : Int} (h : 0 ≤ s ∧ s ≤ 4294967295) {k : Int} (hk : 1 ≤ k) : IntKind.u32.wrap (s.tdiv k) = s / k := by
  rw [Int.tdiv_eq_ediv_of_nonneg h.1]
  have h1 : 0 ≤ s / k := Int.ediv_nonneg h.1 (by omega)
  have h2 : s / k ≤ s := Int.ediv_le_self k h.1
  rw [IntKind.wrap_u32]
  omega
theorem m256 {x : Int} (h : 0 ≤ x) : IntKind.u8.wrap (x.tmod 256) = IntKind.u8.wrap x := by
  rw [Int.tmod_eq_emod_of_nonneg h, wrap8_mod]
def tab_tokRC : Wk.Tab := []
theorem p_tokRC {ops : Array Oper} {rest : List Oper} {o : Oper} {w0 : World} {Q : Exit → Act → World → Prop} {S : List Nat} {R : List Res} {K K' : Wk.Env} {N : Nat} (h : Wk.stp tab_tokRC N ops K o = some K') (n : Wk.Wk N S w0 K' R (wpList Tryz.prog ops Q rest)) : Wk.Wk N S w0 K R (wpList Tryz.prog ops Q (o :: rest)) := Wk.wP (T := tab_tokRC) (by kernel_rfl) h n
set_option maxHeartbeats 16000000 in
set_option maxRecDepth 20000 in
theorem tokRC (s : Int) (a : Int) (b : Int) (w : World) (h0 : 0 ≤ s ∧ s ≤ 4294967295) : Calls Tryz.prog 21 #[.int .u32 s, .int .i64 a, .int .i64 b] w fun e w' => e = .returned (.int .u32 (tokV s a b)) ∧ Off [] w w' := by
 have H := Lib.hid (Hp.start [] w)
 have ha0 : 0 ≤ IntKind.u32.wrap a ∧ IntKind.u32.wrap a ≤ 4294967295 := by rw [IntKind.wrap_u32]; omega
 have e00 : IntKind.u32.wrap (s.tdiv 16777216) = s / 16777216 := q32 h0 (by decide)
 have e01 : IntKind.u32.wrap (s.tdiv 65536) = s / 65536 := q32 h0 (by decide)
 have f01 : IntKind.u8.wrap ((s / 65536).tmod 256) = IntKind.u8.wrap (s / 65536) := m256 (Int.ediv_nonneg h0.1 (by decide))
 have e02 : IntKind.u32.wrap (s.tdiv 256) = s / 256 := q32 h0 (by decide)
 have f02 : IntKind.u8.wrap ((s / 256).tmod 256) = IntKind.u8.wrap (s / 256) := m256 (Int.ediv_nonneg h0.1 (by decide))
 have g0 : IntKind.u8.wrap (s.tmod 256) = IntKind.u8.wrap (s / 1) := by rw [m256 h0.1, Int.ediv_one]
 have e10 : IntKind.u32.wrap ((IntKind.u32.wrap a).tdiv 16777216) = (IntKind.u32.wrap a) / 16777216 := q32 ha0 (by decide)
 have e11 : IntKind.u32.wrap ((IntKind.u32.wrap a).tdiv 65536) = (IntKind.u32.wrap a) / 65536 := q32 ha0 (by decide)
 have f11 : IntKind.u8.wrap (((IntKind.u32.wrap a) / 65536).tmod 256) = IntKind.u8.wrap ((IntKind.u32.wrap a) / 65536) := m256 (Int.ediv_nonneg ha0.1 (by decide))
 have e12 : IntKind.u32.wrap ((IntKind.u32.wrap a).tdiv 256) = (IntKind.u32.wrap a) / 256 := q32 ha0 (by decide)
 have f12 : IntKind.u8.wrap (((IntKind.u32.wrap a) / 256).tmod 256) = IntKind.u8.wrap ((IntKind.u32.wrap a) / 256) := m256 (Int.ediv_nonneg ha0.1 (by decide))
 have g1 : IntKind.u8.wrap ((IntKind.u32.wrap a).tmod 256) = IntKind.u8.wrap ((IntKind.u32.wrap a) / 1) := by rw [m256 ha0.1, Int.ediv_one]
 refine wStart (args := [.int .u32 s, .int .i64 a, .int .i64 b]) Tryz.func21 rfl rfl rfl H ?_
 clear H
 show Wk 56 _ _ [(0, .int .u32 s), (1, .int .i64 a), (2, .int .i64 b)] _ _
 refine wSeqK fun KK1 hK1 => ?_
 refine wReg ?_
 refine p_tokRC rfl ?_
 refine wN ?_
 refine tN (wKK hK1 ?_)
 refine wSeqK fun KK2 hK2 => ?_
 refine wReg ?_
 refine p_tokRC rfl ?_
 refine wE (.int .u32 (IntKind.u32.wrap a)) rfl rfl rfl (fun aa ww hs _ => by have e11 := hs 11 _ rfl; have g11 := gt_of e11; simp only [execOp]; go_simp <;> first | rfl | omega) ?_
 refine p_tokRC rfl ?_
 refine wN ?_
 refine tN (wKK hK2 ?_)
 refine wSeqK fun KK3 hK3 => ?_
 refine wReg ?_
 refine p_tokRC rfl ?_
 refine wE (.int .u32 (s / 16777216)) rfl rfl rfl (fun aa ww hs _ => by have e13 := hs 13 _ rfl; have g13 := gt_of e13; simp only [execOp]; go_simp <;> first | rfl | omega) ?_
 refine wE (.int .u8 (IntKind.u8.wrap (s / 16777216))) rfl rfl rfl (fun aa ww hs _ => by have e14 := hs 14 _ rfl; have g14 := gt_of e14; simp only [execOp]; go_simp <;> first | rfl | omega) ?_
 refine p_tokRC rfl ?_
 refine wE (.int .u32 (s / 65536)) rfl rfl rfl (fun aa ww hs _ => by have e16 := hs 16 _ rfl; have g16 := gt_of e16; simp only [execOp]; go_simp <;> first | rfl | omega) ?_
 refine wE (.int .u32 ((s / 65536).tmod 256)) rfl rfl rfl (fun aa ww hs _ => by have e17 := hs 17 _ rfl; have g17 := gt_of e17; simp only [execOp]; go_simp <;> first | rfl | omega) ?_
 refine wE (.int .u8 (IntKind.u8.wrap (s / 65536))) rfl rfl rfl (fun aa ww hs _ => by have e18 := hs 18 _ rfl; have g18 := gt_of e18; simp only [execOp]; go_simp <;> first | rfl | omega) ?_
 refine p_tokRC rfl ?_
 refine wE (.int .u32 (s / 256)) rfl rfl rfl (fun aa ww hs _ => by have e20 := hs 20 _ rfl; have g20 := gt_of e20; simp only [execOp]; go_simp <;> first | rfl | omega) ?_
 refine wE (.int .u32 ((s / 256).tmod 256)) rfl rfl rfl (fun aa ww hs _ => by have e21 := hs 21 _ rfl; have g21 := gt_of e21; simp only [execOp]; go_simp <;> first | rfl | omega) ?_
 refine wE (.int .u8 (IntKind.u8.wrap (s / 256))) rfl rfl rfl (fun aa ww hs _ => by have e22 := hs 22 _ rfl; have g22 := gt_of e22; simp only [execOp]; go_simp <;> first | rfl | omega) ?_
 refine p_tokRC rfl ?_
 refine wE (.int .u32 (s.tmod 256)) rfl rfl rfl (fun aa ww hs _ => by have e24 := hs 24 _ rfl; have g24 := gt_of e24; simp only [execOp]; go_simp <;> first | rfl | omega) ?_
 refine wE (.int .u8 (IntKind.u8.wrap (s / 1))) rfl rfl rfl (fun aa ww hs _ => by have e25 := hs 25 _ rfl; have g25 := gt_of e25; simp only [execOp]; go_simp <;> first | rfl | omega) ?_
 refine p_tokRC rfl ?_
 refine wE (.int .u32 ((IntKind.u32.wrap a) / 16777216)) rfl rfl rfl (fun aa ww hs _ => by have e27 := hs 27 _ rfl; have g27 := gt_of e27; simp only [execOp]; go_simp <;> first | rfl | omega) ?_
 refine wE (.int .u8 (IntKind.u8.wrap ((IntKind.u32.wrap a) / 16777216))) rfl rfl rfl (fun aa ww hs _ => by have e28 := hs 28 _ rfl; have g28 := gt_of e28; simp only [execOp]; go_simp <;> first | rfl | omega) ?_
 refine p_tokRC rfl ?_
 refine wE (.int .u32 ((IntKind.u32.wrap a) / 65536)) rfl rfl rfl (fun aa ww hs _ => by have e30 := hs 30 _ rfl; have g30 := gt_of e30; simp only [execOp]; go_simp <;> first | rfl | omega) ?_
 refine wE (.int .u32 (((IntKind.u32.wrap a) / 65536).tmod 256)) rfl rfl rfl (fun aa ww hs _ => by have e31 := hs 31 _ rfl; have g31 := gt_of e31; simp only [execOp]; go_simp <;> first | rfl | omega) ?_
 refine wE (.int .u8 (IntKind.u8.wrap ((IntKind.u32.wrap a) / 65536))) rfl rfl rfl (fun aa ww hs _ => by have e32 := hs 32 _ rfl; have g32 := gt_of e32; simp only [execOp]; go_simp <;> first | rfl | omega) ?_
 refine p_tokRC rfl ?_
 refine wE (.int .u32 ((IntKind.u32.wrap a) / 256)) rfl rfl rfl (fun aa ww hs _ => by have e34 := hs 34 _ rfl; have g34 := gt_of e34; simp only [execOp]; go_simp <;> first | rfl | omega) ?_
 refine wE (.int .u32 (((IntKind.u32.wrap a) / 256).tmod 256)) rfl rfl rfl (fun aa ww hs _ => by have e35 := hs 35 _ rfl; have g35 := gt_of e35; simp only [execOp]; go_simp <;> first | rfl | omega) ?_
 refine wE (.int .u8 (IntKind.u8.wrap ((IntKind.u32.wrap a) / 256))) rfl rfl rfl (fun aa ww hs _ => by have e36 := hs 36 _ rfl; have g36 := gt_of e36; simp only [execOp]; go_simp <;> first | rfl | omega) ?_
 refine p_tokRC rfl ?_
 refine wE (.int .u32 ((IntKind.u32.wrap a).tmod 256)) rfl rfl rfl (fun aa ww hs _ => by have e38 := hs 38 _ rfl; have g38 := gt_of e38; simp only [execOp]; go_simp <;> first | rfl | omega) ?_
 refine wE (.int .u8 (IntKind.u8.wrap ((IntKind.u32.wrap a) / 1))) rfl rfl rfl (fun aa ww hs _ => by have e39 := hs 39 _ rfl; have g39 := gt_of e39; simp only [execOp]; go_simp <;> first | rfl | omega) ?_
 refine p_tokRC rfl ?_
 refine wE (.int .u8 (IntKind.u8.wrap b)) rfl rfl rfl (fun aa ww hs _ => by have e41 := hs 41 _ rfl; have g41 := gt_of e41; simp only [execOp]; go_simp <;> first | rfl | omega) ?_
 refine wE (.agg #[.int .u8 (IntKind.u8.wrap (s / 16777216)), .int .u8 (IntKind.u8.wrap (s / 65536)), .int .u8 (IntKind.u8.wrap (s / 256)), .int .u8 (IntKind.u8.wrap (s / 1)), .int .u8 (IntKind.u8.wrap ((IntKind.u32.wrap a) / 16777216)), .int .u8 (IntKind.u8.wrap ((IntKind.u32.wrap a) / 65536)), .int .u8 (IntKind.u8.wrap ((IntKind.u32.wrap a) / 256)), .int .u8 (IntKind.u8.wrap ((IntKind.u32.wrap a) / 1)), .int .u8 (IntKind.u8.wrap b)]) rfl rfl rfl (fun aa ww hs _ => by have e15 := hs 15 _ rfl; have g15 := gt_of e15; have e19 := hs 19 _ rfl; have g19 := gt_of e19; have e23 := hs 23 _ rfl; have g23 := gt_of e23; have e26 := hs 26 _ rfl; have g26 := gt_of e26; have e29 := hs 29 _ rfl; have g29 := gt_of e29; have e33 := hs 33 _ rfl; have g33 := gt_of e33; have e37 := hs 37 _ rfl; have g37 := gt_of e37; have e40 := hs 40 _ rfl; have g40 := gt_of e40; have e42 := hs 42 _ rfl; have g42 := gt_of e42; simp only [execOp]; go_simp <;> first | rfl | omega) ?_
 refine wAl rfl rfl ty_9_uint8 fun b8 => ?_
 refine wSr rfl ty_9_uint8 0 rfl rfl rfl rfl [.int .u8 (IntKind.u8.wrap (s / 16777216)), .int .u8 (IntKind.u8.wrap (s / 65536)), .int .u8 (IntKind.u8.wrap (s / 256)), .int .u8 (IntKind.u8.wrap (s / 1)), .int .u8 (IntKind.u8.wrap ((IntKind.u32.wrap a) / 16777216)), .int .u8 (IntKind.u8.wrap ((IntKind.u32.wrap a) / 65536)), .int .u8 (IntKind.u8.wrap ((IntKind.u32.wrap a) / 256)), .int .u8 (IntKind.u8.wrap ((IntKind.u32.wrap a) / 1)), .int .u8 (IntKind.u8.wrap b)] (by first | rfl | (simp only [spl]; rfl)) ?_
 refine wN ?_
 refine tN (wKK hK3 ?_)
 refine wSeqK fun KK4 hK4 => ?_
 refine wReg ?_
 refine p_tokRC rfl ?_
 refine wN ?_
 refine tN (wKK hK4 ?_)
 refine wSeqK fun KK5 hK5 => ?_
 refine wSeqK fun KK6 hK6 => ?_
 refine wReg ?_
 refine p_tokRC rfl ?_
 refine wN ?_
 refine tN (wKK hK6 ?_)
 refine wBlk ?_
 refine wLoopN 10 ?_
 refine wRnd ?_
 refine wSeqK fun KK7 hK7 => ?_
 refine wSeqK fun KK8 hK8 => ?_
 refine wReg ?_
 iterate 2 refine p_tokRC rfl ?_
 refine wN ?_
 refine tN (wKK hK8 ?_)
 refine wCt rfl ?_
 refine wSk ?_
 refine tN (wKK hK7 ?_)
 refine wSeqK fun KK9 hK9 => ?_
 refine wBlk ?_
 refine wReg ?_
 iterate 2 refine p_tokRC rfl ?_
 refine wE (.pointer (some ⟨b8, 0, none⟩)) rfl rfl rfl (fun aa ww hs _ => by have e8 := hs 8 _ rfl; have g8 := gt_of e8; have e49 := hs 49 _ rfl; have g49 := gt_of e49; simp only [execOp]; go_simp <;> first | rfl | omega) ?_
 refine wLd rfl tyuint8 0 rfl rfl ?_
 refine wE (.int .u32 (IntKind.u32.wrap (IntKind.u8.wrap (s / 16777216)))) rfl rfl rfl (fun aa ww hs _ => by have e51 := hs 51 _ rfl; have g51 := gt_of e51; simp only [execOp]; go_simp <;> first | rfl | omega) ?_
 refine wE (.int .u32 (bits BinOp.xor IntKind.u32 2166136261 (IntKind.u32.wrap (IntKind.u8.wrap (s / 16777216))))) rfl rfl rfl (fun aa ww hs _ => by have e48 := hs 48 _ rfl; have g48 := gt_of e48; have e52 := hs 52 _ rfl; have g52 := gt_of e52; simp only [execOp]; go_simp <;> first | rfl | omega) ?_
 iterate 2 refine p_tokRC rfl ?_
 refine wN ?_
 refine bN (tN (wKK hK9 ?_))
 refine wReg ?_
 iterate 2 refine p_tokRC rfl ?_
 refine wI 47 rfl (IntWalk.i64_in _ (by omega)) ?_
 refine p_tokRC rfl ?_
 refine wN ?_
 refine tN ?_
 refine wRnd ?_
 refine wSeqK fun KK10 hK10 => ?_
 refine wSeqK fun KK11 hK11 => ?_
 refine wReg ?_
 iterate 2 refine p_tokRC rfl ?_
 refine wN ?_
 refine tN (wKK hK11 ?_)
 refine wCt rfl ?_
 refine wSk ?_
 refine tN (wKK hK10 ?_)
 refine wSeqK fun KK12 hK12 => ?_
 refine wBlk ?_
 refine wReg ?_
 iterate 2 refine p_tokRC rfl ?_
 refine wE (.pointer (some ⟨b8, 1, none⟩)) rfl rfl rfl (fun aa ww hs _ => by have e8 := hs 8 _ rfl; have g8 := gt_of e8; have e49 := hs 49 _ rfl; have g49 := gt_of e49; simp only [execOp]; go_simp <;> first | rfl | omega) ?_
 refine wLd rfl tyuint8 0 rfl rfl ?_
 refine wE (.int .u32 (IntKind.u32.wrap (IntKind.u8.wrap (s / 65536)))) rfl rfl rfl (fun aa ww hs _ => by have e51 := hs 51 _ rfl; have g51 := gt_of e51; simp only [execOp]; go_simp <;> first | rfl | omega) ?_
 refine wE (.int .u32 (bits BinOp.xor IntKind.u32 (IntKind.u32.wrap ((bits BinOp.xor IntKind.u32 2166136261 (IntKind.u32.wrap (IntKind.u8.wrap (s / 16777216)))) * 16777619)) (IntKind.u32.wrap (IntKind.u8.wrap (s / 65536))))) rfl rfl rfl (fun aa ww hs _ => by have e48 := hs 48 _ rfl; have g48 := gt_of e48; have e52 := hs 52 _ rfl; have g52 := gt_of e52; simp only [execOp]; go_simp <;> first | rfl | omega) ?_
 iterate 2 refine p_tokRC rfl ?_
 refine wN ?_
 refine bN (tN (wKK hK12 ?_))
 refine wReg ?_
 iterate 2 refine p_tokRC rfl ?_
 refine wI 47 rfl (IntWalk.i64_in _ (by omega)) ?_
 refine p_tokRC rfl ?_
 refine wN ?_
 refine tN ?_
 refine wRnd ?_
 refine wSeqK fun KK13 hK13 => ?_
 refine wSeqK fun KK14 hK14 => ?_
 refine wReg ?_
 iterate 2 refine p_tokRC rfl ?_
 refine wN ?_
 refine tN (wKK hK14 ?_)
 refine wCt rfl ?_
 refine wSk ?_
 refine tN (wKK hK13 ?_)
 refine wSeqK fun KK15 hK15 => ?_
 refine wBlk ?_
 refine wReg ?_
 iterate 2 refine p_tokRC rfl ?_
 refine wE (.pointer (some ⟨b8, 2, none⟩)) rfl rfl rfl (fun aa ww hs _ => by have e8 := hs 8 _ rfl; have g8 := gt_of e8; have e49 := hs 49 _ rfl; have g49 := gt_of e49; simp only [execOp]; go_simp <;> first | rfl | omega) ?_
 refine wLd rfl tyuint8 0 rfl rfl ?_
 refine wE (.int .u32 (IntKind.u32.wrap (IntKind.u8.wrap (s / 256)))) rfl rfl rfl (fun aa ww hs _ => by have e51 := hs 51 _ rfl; have g51 := gt_of e51; simp only [execOp]; go_simp <;> first | rfl | omega) ?_
 refine wE (.int .u32 (bits BinOp.xor IntKind.u32 (IntKind.u32.wrap ((bits BinOp.xor IntKind.u32 (IntKind.u32.wrap ((bits BinOp.xor IntKind.u32 2166136261 (IntKind.u32.wrap (IntKind.u8.wrap (s / 16777216)))) * 16777619)) (IntKind.u32.wrap (IntKind.u8.wrap (s / 65536)))) * 16777619)) (IntKind.u32.wrap (IntKind.u8.wrap (s / 256))))) rfl rfl rfl (fun aa ww hs _ => by have e48 := hs 48 _ rfl; have g48 := gt_of e48; have e52 := hs 52 _ rfl; have g52 := gt_of e52; simp only [execOp]; go_simp <;> first | rfl | omega) ?_
 iterate 2 refine p_tokRC rfl ?_
 refine wN ?_
 refine bN (tN (wKK hK15 ?_))
 refine wReg ?_
 iterate 2 refine p_tokRC rfl ?_
 refine wI 47 rfl (IntWalk.i64_in _ (by omega)) ?_
 refine p_tokRC rfl ?_
 refine wN ?_
 refine tN ?_
 refine wRnd ?_
 refine wSeqK fun KK16 hK16 => ?_
 refine wSeqK fun KK17 hK17 => ?_
 refine wReg ?_
 iterate 2 refine p_tokRC rfl ?_
 refine wN ?_
 refine tN (wKK hK17 ?_)
 refine wCt rfl ?_
 refine wSk ?_
 refine tN (wKK hK16 ?_)
 refine wSeqK fun KK18 hK18 => ?_
 refine wBlk ?_
 refine wReg ?_
 iterate 2 refine p_tokRC rfl ?_
 refine wE (.pointer (some ⟨b8, 3, none⟩)) rfl rfl rfl (fun aa ww hs _ => by have e8 := hs 8 _ rfl; have g8 := gt_of e8; have e49 := hs 49 _ rfl; have g49 := gt_of e49; simp only [execOp]; go_simp <;> first | rfl | omega) ?_
 refine wLd rfl tyuint8 0 rfl rfl ?_
 refine wE (.int .u32 (IntKind.u32.wrap (IntKind.u8.wrap (s / 1)))) rfl rfl rfl (fun aa ww hs _ => by have e51 := hs 51 _ rfl; have g51 := gt_of e51; simp only [execOp]; go_simp <;> first | rfl | omega) ?_
 refine wE (.int .u32 (bits BinOp.xor IntKind.u32 (IntKind.u32.wrap ((bits BinOp.xor IntKind.u32 (IntKind.u32.wrap ((bits BinOp.xor IntKind.u32 (IntKind.u32.wrap ((bits BinOp.xor IntKind.u32 2166136261 (IntKind.u32.wrap (IntKind.u8.wrap (s / 16777216)))) * 16777619)) (IntKind.u32.wrap (IntKind.u8.wrap (s / 65536)))) * 16777619)) (IntKind.u32.wrap (IntKind.u8.wrap (s / 256)))) * 16777619)) (IntKind.u32.wrap (IntKind.u8.wrap (s / 1))))) rfl rfl rfl (fun aa ww hs _ => by have e48 := hs 48 _ rfl; have g48 := gt_of e48; have e52 := hs 52 _ rfl; have g52 := gt_of e52; simp only [execOp]; go_simp <;> first | rfl | omega) ?_
 iterate 2 refine p_tokRC rfl ?_
 refine wN ?_
 refine bN (tN (wKK hK18 ?_))
 refine wReg ?_
 iterate 2 refine p_tokRC rfl ?_
 refine wI 47 rfl (IntWalk.i64_in _ (by omega)) ?_
 refine p_tokRC rfl ?_
 refine wN ?_
 refine tN ?_
 refine wRnd ?_
 refine wSeqK fun KK19 hK19 => ?_
 refine wSeqK fun KK20 hK20 => ?_
 refine wReg ?_
 iterate 2 refine p_tokRC rfl ?_
 refine wN ?_
 refine tN (wKK hK20 ?_)
 refine wCt rfl ?_
 refine wSk ?_
 refine tN (wKK hK19 ?_)
 refine wSeqK fun KK21 hK21 => ?_
 refine wBlk ?_
 refine wReg ?_
 iterate 2 refine p_tokRC rfl ?_
 refine wE (.pointer (some ⟨b8, 4, none⟩)) rfl rfl rfl (fun aa ww hs _ => by have e8 := hs 8 _ rfl; have g8 := gt_of e8; have e49 := hs 49 _ rfl; have g49 := gt_of e49; simp only [execOp]; go_simp <;> first | rfl | omega) ?_
 refine wLd rfl tyuint8 0 rfl rfl ?_
 refine wE (.int .u32 (IntKind.u32.wrap (IntKind.u8.wrap ((IntKind.u32.wrap a) / 16777216)))) rfl rfl rfl (fun aa ww hs _ => by have e51 := hs 51 _ rfl; have g51 := gt_of e51; simp only [execOp]; go_simp <;> first | rfl | omega) ?_
 refine wE (.int .u32 (bits BinOp.xor IntKind.u32 (IntKind.u32.wrap ((bits BinOp.xor IntKind.u32 (IntKind.u32.wrap ((bits BinOp.xor IntKind.u32 (IntKind.u32.wrap ((bits BinOp.xor IntKind.u32 (IntKind.u32.wrap ((bits BinOp.xor IntKind.u32 2166136261 (IntKind.u32.wrap (IntKind.u8.wrap (s / 16777216)))) * 16777619)) (IntKind.u32.wrap (IntKind.u8.wrap (s / 65536)))) * 16777619)) (IntKind.u32.wrap (IntKind.u8.wrap (s / 256)))) * 16777619)) (IntKind.u32.wrap (IntKind.u8.wrap (s / 1)))) * 16777619)) (IntKind.u32.wrap (IntKind.u8.wrap ((IntKind.u32.wrap a) / 16777216))))) rfl rfl rfl (fun aa ww hs _ => by have e48 := hs 48 _ rfl; have g48 := gt_of e48; have e52 := hs 52 _ rfl; have g52 := gt_of e52; simp only [execOp]; go_simp <;> first | rfl | omega) ?_
 iterate 2 refine p_tokRC rfl ?_
 refine wN ?_
 refine bN (tN (wKK hK21 ?_))
 refine wReg ?_
 iterate 2 refine p_tokRC rfl ?_
 refine wI 47 rfl (IntWalk.i64_in _ (by omega)) ?_
 refine p_tokRC rfl ?_
 refine wN ?_
 refine tN ?_
 refine wRnd ?_
 refine wSeqK fun KK22 hK22 => ?_
 refine wSeqK fun KK23 hK23 => ?_
 refine wReg ?_
 iterate 2 refine p_tokRC rfl ?_
 refine wN ?_
 refine tN (wKK hK23 ?_)
 refine wCt rfl ?_
 refine wSk ?_
 refine tN (wKK hK22 ?_)
 refine wSeqK fun KK24 hK24 => ?_
 refine wBlk ?_
 refine wReg ?_
 iterate 2 refine p_tokRC rfl ?_
 refine wE (.pointer (some ⟨b8, 5, none⟩)) rfl rfl rfl (fun aa ww hs _ => by have e8 := hs 8 _ rfl; have g8 := gt_of e8; have e49 := hs 49 _ rfl; have g49 := gt_of e49; simp only [execOp]; go_simp <;> first | rfl | omega) ?_
 refine wLd rfl tyuint8 0 rfl rfl ?_
 refine wE (.int .u32 (IntKind.u32.wrap (IntKind.u8.wrap ((IntKind.u32.wrap a) / 65536)))) rfl rfl rfl (fun aa ww hs _ => by have e51 := hs 51 _ rfl; have g51 := gt_of e51; simp only [execOp]; go_simp <;> first | rfl | omega) ?_
 refine wE (.int .u32 (bits BinOp.xor IntKind.u32 (IntKind.u32.wrap ((bits BinOp.xor IntKind.u32 (IntKind.u32.wrap ((bits BinOp.xor IntKind.u32 (IntKind.u32.wrap ((bits BinOp.xor IntKind.u32 (IntKind.u32.wrap ((bits BinOp.xor IntKind.u32 (IntKind.u32.wrap ((bits BinOp.xor IntKind.u32 2166136261 (IntKind.u32.wrap (IntKind.u8.wrap (s / 16777216)))) * 16777619)) (IntKind.u32.wrap (IntKind.u8.wrap (s / 65536)))) * 16777619)) (IntKind.u32.wrap (IntKind.u8.wrap (s / 256)))) * 16777619)) (IntKind.u32.wrap (IntKind.u8.wrap (s / 1)))) * 16777619)) (IntKind.u32.wrap (IntKind.u8.wrap ((IntKind.u32.wrap a) / 16777216)))) * 16777619)) (IntKind.u32.wrap (IntKind.u8.wrap ((IntKind.u32.wrap a) / 65536))))) rfl rfl rfl (fun aa ww hs _ => by have e48 := hs 48 _ rfl; have g48 := gt_of e48; have e52 := hs 52 _ rfl; have g52 := gt_of e52; simp only [execOp]; go_simp <;> first | rfl | omega) ?_
 iterate 2 refine p_tokRC rfl ?_
 refine wN ?_
 refine bN (tN (wKK hK24 ?_))
 refine wReg ?_
 iterate 2 refine p_tokRC rfl ?_
 refine wI 47 rfl (IntWalk.i64_in _ (by omega)) ?_
 refine p_tokRC rfl ?_
 refine wN ?_
 refine tN ?_
 refine wRnd ?_
 refine wSeqK fun KK25 hK25 => ?_
 refine wSeqK fun KK26 hK26 => ?_
 refine wReg ?_
 iterate 2 refine p_tokRC rfl ?_
 refine wN ?_
 refine tN (wKK hK26 ?_)
 refine wCt rfl ?_
 refine wSk ?_
 refine tN (wKK hK25 ?_)
 refine wSeqK fun KK27 hK27 => ?_
 refine wBlk ?_
 refine wReg ?_
 iterate 2 refine p_tokRC rfl ?_
 refine wE (.pointer (some ⟨b8, 6, none⟩)) rfl rfl rfl (fun aa ww hs _ => by have e8 := hs 8 _ rfl; have g8 := gt_of e8; have e49 := hs 49 _ rfl; have g49 := gt_of e49; simp only [execOp]; go_simp <;> first | rfl | omega) ?_
 refine wLd rfl tyuint8 0 rfl rfl ?_
 refine wE (.int .u32 (IntKind.u32.wrap (IntKind.u8.wrap ((IntKind.u32.wrap a) / 256)))) rfl rfl rfl (fun aa ww hs _ => by have e51 := hs 51 _ rfl; have g51 := gt_of e51; simp only [execOp]; go_simp <;> first | rfl | omega) ?_
 refine wE (.int .u32 (bits BinOp.xor IntKind.u32 (IntKind.u32.wrap ((bits BinOp.xor IntKind.u32 (IntKind.u32.wrap ((bits BinOp.xor IntKind.u32 (IntKind.u32.wrap ((bits BinOp.xor IntKind.u32 (IntKind.u32.wrap ((bits BinOp.xor IntKind.u32 (IntKind.u32.wrap ((bits BinOp.xor IntKind.u32 (IntKind.u32.wrap ((bits BinOp.xor IntKind.u32 2166136261 (IntKind.u32.wrap (IntKind.u8.wrap (s / 16777216)))) * 16777619)) (IntKind.u32.wrap (IntKind.u8.wrap (s / 65536)))) * 16777619)) (IntKind.u32.wrap (IntKind.u8.wrap (s / 256)))) * 16777619)) (IntKind.u32.wrap (IntKind.u8.wrap (s / 1)))) * 16777619)) (IntKind.u32.wrap (IntKind.u8.wrap ((IntKind.u32.wrap a) / 16777216)))) * 16777619)) (IntKind.u32.wrap (IntKind.u8.wrap ((IntKind.u32.wrap a) / 65536)))) * 16777619)) (IntKind.u32.wrap (IntKind.u8.wrap ((IntKind.u32.wrap a) / 256))))) rfl rfl rfl (fun aa ww hs _ => by have e48 := hs 48 _ rfl; have g48 := gt_of e48; have e52 := hs 52 _ rfl; have g52 := gt_of e52; simp only [execOp]; go_simp <;> first | rfl | omega) ?_
 iterate 2 refine p_tokRC rfl ?_
 refine wN ?_
 refine bN (tN (wKK hK27 ?_))
 refine wReg ?_
 iterate 2 refine p_tokRC rfl ?_
 refine wI 47 rfl (IntWalk.i64_in _ (by omega)) ?_
 refine p_tokRC rfl ?_
 refine wN ?_
 refine tN ?_
 refine wRnd ?_
 refine wSeqK fun KK28 hK28 => ?_
 refine wSeqK fun KK29 hK29 => ?_
 refine wReg ?_
 iterate 2 refine p_tokRC rfl ?_
 refine wN ?_
 refine tN (wKK hK29 ?_)
 refine wCt rfl ?_
 refine wSk ?_
 refine tN (wKK hK28 ?_)
 refine wSeqK fun KK30 hK30 => ?_
 refine wBlk ?_
 refine wReg ?_
 iterate 2 refine p_tokRC rfl ?_
 refine wE (.pointer (some ⟨b8, 7, none⟩)) rfl rfl rfl (fun aa ww hs _ => by have e8 := hs 8 _ rfl; have g8 := gt_of e8; have e49 := hs 49 _ rfl; have g49 := gt_of e49; simp only [execOp]; go_simp <;> first | rfl | omega) ?_
 refine wLd rfl tyuint8 0 rfl rfl ?_
 refine wE (.int .u32 (IntKind.u32.wrap (IntKind.u8.wrap ((IntKind.u32.wrap a) / 1)))) rfl rfl rfl (fun aa ww hs _ => by have e51 := hs 51 _ rfl; have g51 := gt_of e51; simp only [execOp]; go_simp <;> first | rfl | omega) ?_
 refine wE (.int .u32 (bits BinOp.xor IntKind.u32 (IntKind.u32.wrap ((bits BinOp.xor IntKind.u32 (IntKind.u32.wrap ((bits BinOp.xor IntKind.u32 (IntKind.u32.wrap ((bits BinOp.xor IntKind.u32 (IntKind.u32.wrap ((bits BinOp.xor IntKind.u32 (IntKind.u32.wrap ((bits BinOp.xor IntKind.u32 (IntKind.u32.wrap ((bits BinOp.xor IntKind.u32 (IntKind.u32.wrap ((bits BinOp.xor IntKind.u32 2166136261 (IntKind.u32.wrap (IntKind.u8.wrap (s / 16777216)))) * 16777619)) (IntKind.u32.wrap (IntKind.u8.wrap (s / 65536)))) * 16777619)) (IntKind.u32.wrap (IntKind.u8.wrap (s / 256)))) * 16777619)) (IntKind.u32.wrap (IntKind.u8.wrap (s / 1)))) * 16777619)) (IntKind.u32.wrap (IntKind.u8.wrap ((IntKind.u32.wrap a) / 16777216)))) * 16777619)) (IntKind.u32.wrap (IntKind.u8.wrap ((IntKind.u32.wrap a) / 65536)))) * 16777619)) (IntKind.u32.wrap (IntKind.u8.wrap ((IntKind.u32.wrap a) / 256)))) * 16777619)) (IntKind.u32.wrap (IntKind.u8.wrap ((IntKind.u32.wrap a) / 1))))) rfl rfl rfl (fun aa ww hs _ => by have e48 := hs 48 _ rfl; have g48 := gt_of e48; have e52 := hs 52 _ rfl; have g52 := gt_of e52; simp only [execOp]; go_simp <;> first | rfl | omega) ?_
 iterate 2 refine p_tokRC rfl ?_
 refine wN ?_
 refine bN (tN (wKK hK30 ?_))
 refine wReg ?_
 iterate 2 refine p_tokRC rfl ?_
 refine wI 47 rfl (IntWalk.i64_in _ (by omega)) ?_
 refine p_tokRC rfl ?_
 refine wN ?_
 refine tN ?_
 refine wRnd ?_
 refine wSeqK fun KK31 hK31 => ?_
 refine wSeqK fun KK32 hK32 => ?_
 refine wReg ?_
 iterate 2 refine p_tokRC rfl ?_
 refine wN ?_
 refine tN (wKK hK32 ?_)
 refine wCt rfl ?_
 refine wSk ?_
 refine tN (wKK hK31 ?_)
 refine wSeqK fun KK33 hK33 => ?_
 refine wBlk ?_
 refine wReg ?_
 iterate 2 refine p_tokRC rfl ?_
 refine wE (.pointer (some ⟨b8, 8, none⟩)) rfl rfl rfl (fun aa ww hs _ => by have e8 := hs 8 _ rfl; have g8 := gt_of e8; have e49 := hs 49 _ rfl; have g49 := gt_of e49; simp only [execOp]; go_simp <;> first | rfl | omega) ?_
 refine wLd rfl tyuint8 0 rfl rfl ?_
 refine wE (.int .u32 (IntKind.u32.wrap (IntKind.u8.wrap b))) rfl rfl rfl (fun aa ww hs _ => by have e51 := hs 51 _ rfl; have g51 := gt_of e51; simp only [execOp]; go_simp <;> first | rfl | omega) ?_
 refine wE (.int .u32 (bits BinOp.xor IntKind.u32 (IntKind.u32.wrap ((bits BinOp.xor IntKind.u32 (IntKind.u32.wrap ((bits BinOp.xor IntKind.u32 (IntKind.u32.wrap ((bits BinOp.xor IntKind.u32 (IntKind.u32.wrap ((bits BinOp.xor IntKind.u32 (IntKind.u32.wrap ((bits BinOp.xor IntKind.u32 (IntKind.u32.wrap ((bits BinOp.xor IntKind.u32 (IntKind.u32.wrap ((bits BinOp.xor IntKind.u32 (IntKind.u32.wrap ((bits BinOp.xor IntKind.u32 2166136261 (IntKind.u32.wrap (IntKind.u8.wrap (s / 16777216)))) * 16777619)) (IntKind.u32.wrap (IntKind.u8.wrap (s / 65536)))) * 16777619)) (IntKind.u32.wrap (IntKind.u8.wrap (s / 256)))) * 16777619)) (IntKind.u32.wrap (IntKind.u8.wrap (s / 1)))) * 16777619)) (IntKind.u32.wrap (IntKind.u8.wrap ((IntKind.u32.wrap a) / 16777216)))) * 16777619)) (IntKind.u32.wrap (IntKind.u8.wrap ((IntKind.u32.wrap a) / 65536)))) * 16777619)) (IntKind.u32.wrap (IntKind.u8.wrap ((IntKind.u32.wrap a) / 256)))) * 16777619)) (IntKind.u32.wrap (IntKind.u8.wrap ((IntKind.u32.wrap a) / 1)))) * 16777619)) (IntKind.u32.wrap (IntKind.u8.wrap b)))) rfl rfl rfl (fun aa ww hs _ => by have e48 := hs 48 _ rfl; have g48 := gt_of e48; have e52 := hs 52 _ rfl; have g52 := gt_of e52; simp only [execOp]; go_simp <;> first | rfl | omega) ?_
 iterate 2 refine p_tokRC rfl ?_
 refine wN ?_
 refine bN (tN (wKK hK33 ?_))
 refine wReg ?_
 iterate 2 refine p_tokRC rfl ?_
 refine wI 47 rfl (IntWalk.i64_in _ (by omega)) ?_
 refine p_tokRC rfl ?_
 refine wN ?_
 refine tN ?_
 refine wRnd ?_
 refine wSeqK fun KK34 hK34 => ?_
 refine wSeqK fun KK35 hK35 => ?_
 refine wReg ?_
 iterate 2 refine p_tokRC rfl ?_
 refine wN ?_
 refine tN (wKK hK35 ?_)
 refine wCf rfl ?_
 refine wEx ?_
 refine tX (tX (bX (tN (wKK hK5 ?_))))
 refine wSeqK fun KK36 hK36 => ?_
 refine wReg ?_
 iterate 2 refine p_tokRC rfl ?_
 refine wN ?_
 refine tN (wKK hK36 ?_)
 refine wRet ?_
 exact wR1 rfl rfl (fun ww H => ⟨by unfold tokV wordV moreV; rfl, H.out.off⟩)
end Go.Proofs.YthflkhalipkdgaaGreat.Mn
