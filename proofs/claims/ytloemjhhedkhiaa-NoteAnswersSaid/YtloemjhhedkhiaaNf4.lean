/- Layer 15: the reference: answers. -/
import Derived.Test.YtloemjhhedkhiaaProg
import Derived.Below
import Derived.WalkKit
import Derived.KernelRfl
import Derived.RowKit3
import Derived.Deep.LoopGhost
import Derived.Deep.QuietTactic
import Derived.BigQuiet
import Derived.WideLaws
import Derived.Deep.DeepCutAuto
import Derived.Deep.CutBlock
import Derived.Lib.Hide
import Derived.Laws.BitsLemmas
import Derived.Laws.Bits64
import Derived.Laws.BitsAllLaws
import Derived.IntWalk
import Derived.Outline
import Derived.WalkSpells
import Derived.Test.YtloemjhhedkhiaaMem
import Derived.Test.YtloemjhhedkhiaaNf3
namespace Go.Proofs.Ytloemjhhedkhiaa.Nt
open Go.RowKit Go.Proofs.Ytloemjhhedkhiaa.Mem Go.Proofs.Ytloemjhhedkhiaa.Pk Go.Proofs.Ytloemjhhedkhiaa.Reg Go.Proofs.Ytloemjhhedkhiaa.Wk
set_option linter.unusedVariables false
set_option linter.unusedSimpArgs false

theorem enc_yesF {a : AnsV} (h : ansOk a = true) : encodeV a = (str (ansB a), 0) := by unfold encodeV; rw [h]; rfl
theorem enc_okF {a : AnsV} (h : ((encodeV a).2 == 0) = true) : ansOk a = true := by
  unfold encodeV at h
  cases ho : ansOk a with
  | true => rfl
  | false => rw [ho] at h; simp at h
theorem renc_no {v : AnsV} (h : payOk v = false ∨ (numV 4 v.seq 1073741824).2 = false) : encodeV v = (⟨#[]⟩, 1) := by
  have e : ansOk v = false := by
    unfold ansOk
    rcases h with h | h
    · rw [h, Bool.and_false]
    · rw [num4_ok] at h
      rw [h, Bool.false_and]
  unfold encodeV
  rw [e]
  rfl
theorem renc_yes {v : AnsV} (h : payOk v = true) (h2 : (numV 4 v.seq 1073741824).2 = true) : encodeV v = (((⟨#[128]⟩ : ByteArray) ++ (numV 4 v.seq 1073741824).1) ++ str (payB v), 0) := by
  rw [num4_ok] at h2
  have e : ansOk v = true := by
    unfold ansOk
    rw [h, h2]
    rfl
  unfold encodeV
  rw [e, num4_is h2, ans_split]
  unfold headB
  rw [str_more]
  rfl
/-- calls that are read one behind the other -/
def rCalls : Nat → ByteArray × Bool → List CallV × (ByteArray × Bool)
  | 0, s => ([], s)
  | k + 1, s => ((rCalls k s).1 ++ [(dCall (rCalls k s).2).1], (dCall (rCalls k s).2).2.2)
theorem rcalls_cons : ∀ (k : Nat) (s : ByteArray × Bool), rCalls (k + 1) s = ((dCall s).1 :: (rCalls k (dCall s).2.2).1, (rCalls k (dCall s).2.2).2)
  | 0, s => rfl
  | k + 1, s => by
    rw [rCalls, rcalls_cons k s]
    rfl
theorem rcalls_is : ∀ (n : Nat) (s : ByteArray × Bool), (dCalls n s).2.2.2 = false → rCalls n s = ((dCalls n s).1, (dCalls n s).2.2)
  | 0, s, _ => rfl
  | n + 1, s, h => by
    rw [rcalls_cons]
    unfold dCalls at h ⊢
    by_cases hs : s.2 = true
    · rw [if_pos hs] at h
      rw [hs] at h
      cases h
    · rw [if_neg hs] at h ⊢
      rw [rcalls_is n _ h]
theorem rcalls_next {k : Nat} {s : ByteArray × Bool} {ys : List CallV} {s1 s2 : ByteArray} {b1 b2 g : Bool} {x : CallV} (h : rCalls k s = (ys, (s1, b1))) (hd : dCall (s1, b1) = (x, g, (s2, b2))) : rCalls (k + 1) s = (ys ++ [x], (s2, b2)) := by
  rw [rCalls, h, hd]
theorem sm_next {ys : List CallV} {x : CallV} (h : ∀ y ∈ ys, smC y) (hx : smC x) : ∀ y ∈ ys ++ [x], smC y := fun y hy => by
  rcases List.mem_append.1 hy with h1 | h1
  · exact h y h1
  · rw [List.mem_singleton.1 h1]; exact hx
theorem dec_chain {s s0 s1 s2 s3 s4 s5 s6 : ByteArray} {k0 k1 k2 k3 k4 k5 n : Nat} {v0 v1 v2 v3 v4 v5 v6 : Bool} (h : ((decodeV s).2 == 0) = true) (h0 : inNumV s false 1 = (k0, s0, v0)) (h1 : inNumV s0 v0 4 = (k1, s1, v1)) (h2 : inNumV s1 v1 1 = (k2, s2, v2)) (h3 : inNumV s2 v2 4 = (k3, s3, v3)) (h4 : inNumV s3 v3 4 = (k4, s4, v4)) (h5 : inNumV s4 v4 4 = (k5, s5, v5)) (h6 : inNumV s5 v5 2 = (n, s6, v6)) :
    k0 = 128 ∧ v6 = false ∧ n ≤ 64 ∧ (decodeV s).1 = ⟨k1, k2, k3, k4, k5, (dCalls n (s6, v6)).1⟩ ∧ (dCalls n (s6, v6)).2.2.2 = false := by
  cases hr : readOk s with
  | false => unfold decodeV at h; rw [hr] at h; simp at h
  | true =>
    have e : decodeV s = ((readV s).2.1, 0) := by unfold decodeV; rw [hr]; rfl
    rw [e]
    unfold readOk at hr
    simp only [Bool.and_eq_true, beq_iff_eq, Bool.not_eq_true', decide_eq_true_eq] at hr
    obtain ⟨g1, g2, g3, g4, g5⟩ := hr
    unfold readV at g1 g3 g4 ⊢
    simp only [h0, h1, h2, h3, h4, h5, h6, Bool.or_eq_false_iff] at g1 g3 g4 ⊢
    obtain ⟨m1, _⟩ := calls_not _ _ g4 g3.2
    obtain ⟨m2, m3⟩ := bif_false m1
    rw [m2] at g4 ⊢
    simp only [cond_false] at g4 ⊢
    rw [g4]
    refine ⟨g1, m3, by have := of_decide_eq_false m2; omega, ?_, rfl⟩
    rw [if_neg (by decide)]
theorem rdec_out {s s0 s1 s2 s3 s4 s5 s6 : ByteArray} {k0 k1 k2 k3 k4 k5 n : Nat} {v0 v1 v2 v3 v4 v5 v6 : Bool} (hg : (v6 || decide (64 < (n : Int))) = true) (h0 : inNumV s false 1 = (k0, s0, v0)) (h1 : inNumV s0 v0 4 = (k1, s1, v1)) (h2 : inNumV s1 v1 1 = (k2, s2, v2)) (h3 : inNumV s2 v2 4 = (k3, s3, v3)) (h4 : inNumV s3 v3 4 = (k4, s4, v4)) (h5 : inNumV s4 v4 4 = (k5, s5, v5)) (h6 : inNumV s5 v5 2 = (n, s6, v6)) : ((decodeV s).2 == 0) = false := by
  cases hd : (decodeV s).2 == 0 with
  | false => rfl
  | true =>
    obtain ⟨_, e1, e2, _⟩ := dec_chain hd h0 h1 h2 h3 h4 h5 h6
    rw [e1, Bool.false_or] at hg
    have := of_decide_eq_true hg
    omega
theorem rdec_pass {n : Nat} {s s2 : ByteArray} {b b2 : Bool} (h : inNumV s b 4 = (n, s2, b2)) (k1 k2 k3 k4 : Nat) (ys : List CallV) : PassOk ⟨k1, k2, k3, k4, n, ys⟩ := by
  have := num_lt4 h
  unfold PassOk
  simp only
  omega
theorem fresh0 {w0 w : World} {R : List Res} (H : Hid (Hp [] w0 w R)) {a : Option Addr} {c e k : Nat} {rows : List (List Value)} {l : Nat} (hl : R[l]? = some (rA a c e k rows)) : ∀ q ∈ footA a, w0.heap.size ≤ q := fun q hq => by
  rcases H.out.newf _ (List.mem_of_getElem? hl) rfl q hq with h | h
  · cases h
  · exact h
theorem beq_size {s t : ByteArray} (h : (s.toList == t.toList) = true) : s = t := list_beq h
/-- what the reference accepts is what is decoded -/
theorem rdec_yes {s : ByteArray} {k0 : Nat} {a : AnsV} (hp : PassOk a) (hg : ((((k0 : Int) != 128) || (!((encodeV a).2 == 0))) || (!((encodeV a).1.toList == s.toList))) = false) : decodeV s = (a, 0) := by
  simp only [Bool.or_eq_false_iff, Bool.not_eq_false'] at hg
  obtain ⟨⟨_, g2⟩, g3⟩ := hg
  have ho := enc_okF g2
  have h3 := list_beq g3
  rw [enc_yesF ho] at h3
  rw [← h3]
  exact decode_back ho hp
theorem rdec_no {s s0 s1 s2 s3 s4 s5 s6 sz : ByteArray} {k0 k1 k2 k3 k4 k5 n : Nat} {v0 v1 v2 v3 v4 v5 v6 vz : Bool} {ys : List CallV} (hr : rCalls n (s6, v6) = (ys, (sz, vz))) (hg : ((((k0 : Int) != 128) || (!((encodeV ⟨k1, k2, k3, k4, k5, ys⟩).2 == 0))) || (!((encodeV ⟨k1, k2, k3, k4, k5, ys⟩).1.toList == s.toList))) = true)
    (h0 : inNumV s false 1 = (k0, s0, v0)) (h1 : inNumV s0 v0 4 = (k1, s1, v1)) (h2 : inNumV s1 v1 1 = (k2, s2, v2)) (h3 : inNumV s2 v2 4 = (k3, s3, v3)) (h4 : inNumV s3 v3 4 = (k4, s4, v4)) (h5 : inNumV s4 v4 4 = (k5, s5, v5)) (h6 : inNumV s5 v5 2 = (n, s6, v6)) : ((decodeV s).2 == 0) = false := by
  cases hd : (decodeV s).2 == 0 with
  | false => rfl
  | true =>
    obtain ⟨rfl, _, _, e3, e4⟩ := dec_chain hd h0 h1 h2 h3 h4 h5 h6
    rw [rcalls_is _ _ e4] at hr
    rw [(Prod.mk.inj hr).1] at e3
    obtain ⟨f1, f2, f3⟩ := decode_is (s := s) (by simpa using hd)
    rw [e3] at f1 f3
    rw [enc_yesF f1, ← f3] at hg
    simp at hg
def tab_refEnc : Wk.Tab := [(66, 0, 0)]
theorem p_refEnc {ops : Array Oper} {rest : List Oper} {o : Oper} {w0 : World} {Q : Exit → Act → World → Prop} {S : List Nat} {R : List Res} {K K' : Wk.Env} {N : Nat} (h : Wk.stp tab_refEnc N ops K o = some K') (n : Wk.Wk N S w0 K' R (wpList Try.prog ops Q rest)) : Wk.Wk N S w0 K R (wpList Try.prog ops Q (o :: rest)) := Wk.wP (T := tab_refEnc) (by kernel_rfl) h n
set_option maxHeartbeats 16000000 in
set_option maxRecDepth 20000 in
theorem refEnc (v : AnsV) (sa : Option Addr) (sc : Nat) (w : World) (hS : (rS sa sc 8 (v.calls.map callRow)).holds w) (hv : Hid (smA v)) (hp : 0 ≤ v.pass ∧ v.pass ≤ 4294967295) : Calls Try.prog 29 #[.agg #[.int .i64 v.seq, .int .i64 v.code, .int .i64 v.index, .int .i64 v.session, .int .i64 v.pass, .slice sa v.calls.length sc]] w fun e w' => e = .returned (.tuple #[.string (encodeV v).1, .bool ((encodeV v).2 == 0)]) ∧ Off [] w w' := by
 have H := Lib.hid (Hp.start [] w)
 have H := hp_old H hS (by decide)
 clear hS
 refine wStart (args := [.agg #[.int .i64 v.seq, .int .i64 v.code, .int .i64 v.index, .int .i64 v.session, .int .i64 v.pass, .slice sa v.calls.length sc]]) Try.func29 rfl rfl rfl H ?_
 clear H
 show Wk 29 _ _ [(0, .agg #[.int .i64 v.seq, .int .i64 v.code, .int .i64 v.index, .int .i64 v.session, .int .i64 v.pass, .slice sa v.calls.length sc])] _ _
 have hs1 : (numV 4 v.seq 1073741824).1.size ≤ 8 := num_size _ _ _
 refine wSeqK fun KK1 hK1 => ?_
 refine wReg ?_
 refine wBx rfl rfl rfl fun b1 => ?_
 iterate 2 refine p_refEnc rfl ?_
 refine wN ?_
 refine tN (wKK hK1 ?_)
 refine wSeqK fun KK2 hK2 => ?_
 rcases Bool.eq_false_or_eq_true (payOk v) with y1 | y1
 · skip
   rcases Bool.eq_false_or_eq_true ((numV 4 v.seq 1073741824).2) with y2 | y2
   · skip
     refine wReg ?_
     refine wLr rfl tyhoistwayref15_Answer 0 rfl [.int .i64 v.seq, .int .i64 v.code, .int .i64 v.index, .int .i64 v.session, .int .i64 v.pass, .slice sa v.calls.length sc] rfl rfl ?_
     refine wC (l := [.agg #[.int .i64 v.seq, .int .i64 v.code, .int .i64 v.index, .int .i64 v.session, .int .i64 v.pass, .slice sa v.calls.length sc]]) Try.func31 rfl (by kernel_rfl) (fun wc H => by have h := refPay v sa sc wc (hp_held H (by (repeat (first | exact List.Mem.head _ | apply List.Mem.tail)))) hv hp; rw [y1] at h; exact h) rfl rfl rfl rfl ?_
     intro wc H
     rintro er wd ⟨p1_1, rfl, hpq, hps, hof⟩
     replace hpq := hpq rfl
     have H2 := hp_fact (hp_fact (Lib.hid (H.out.quiet hof)) hps) hpq
     refine ⟨_, rfl, wkAt H2 ?_⟩
     clear H H2 hof
     iterate 5 refine p_refEnc rfl ?_
     refine wN ?_
     refine tN (wKK hK2 ?_)
     refine wSeqK fun KK3 hK3 => ?_
     refine wReg ?_
     refine p_refEnc rfl ?_
     refine wLd rfl tyint 2 rfl rfl ?_
     refine wQ (l := [.int .i64 4, .int .i64 v.seq, .int .i64 1073741824]) Try.func50 rfl (by kernel_rfl) (.tuple #[.string ((numV 4 v.seq 1073741824).1), .bool true]) (fun wc H => by have h := numC 4 v.seq 1073741824 wc hv.out.1; rw [y2] at h; exact h) rfl rfl rfl rfl ?_
     iterate 5 refine p_refEnc rfl ?_
     refine wN ?_
     refine tN (wKK hK3 ?_)
     refine wSeqK fun KK4 hK4 => ?_
     refine wSeqK fun KK5 hK5 => ?_
     refine wReg ?_
     iterate 6 refine p_refEnc rfl ?_
     refine wN ?_
     refine tN (wKK hK5 ?_)
     refine wCf rfl ?_
     refine wSk ?_
     refine tN (wKK hK4 ?_)
     refine wSeqK fun KK6 hK6 => ?_
     intro aa ww nn dd hs H
     have hps := hp_told H (p := p1_1.size ≤ 2000) (by (repeat (first | exact List.Mem.head _ | apply List.Mem.tail)))
     have hps2 : (str (payB v)).size ≤ 2000 := by have hpq := hp_told H (p := p1_1 = str (payB v)) (by (repeat (first | exact List.Mem.head _ | apply List.Mem.tail))); rw [← hpq]; exact hps
     refine wIn nn dd hs H ?_
     refine wReg ?_
     refine p_refEnc rfl ?_
     refine wE (.string ((⟨#[128]⟩ : ByteArray) ++ ((numV 4 v.seq 1073741824).1))) rfl rfl rfl (fun aa ww hs _ => by have e25 := hs 25 _ rfl; have g25 := gt_of e25; simp only [execOp]; go_simp <;> omega) ?_
     refine p_refEnc rfl ?_
     refine wE (.string (((⟨#[128]⟩ : ByteArray) ++ ((numV 4 v.seq 1073741824).1)) ++ p1_1)) rfl rfl rfl (fun aa ww hs _ => by have e26 := hs 26 _ rfl; have g26 := gt_of e26; have e27 := hs 27 _ rfl; have g27 := gt_of e27; simp only [execOp]; go_simp <;> omega) ?_
     iterate 2 refine p_refEnc rfl ?_
     refine wN ?_
     refine tN (wKK hK6 ?_)
     refine wRet ?_
     exact wR2 rfl rfl rfl (fun ww H => (by (have hpq := hp_told H (p := p1_1 = str (payB v)) (by (repeat (first | exact List.Mem.head _ | apply List.Mem.tail)))); exact ⟨by rw [renc_yes y1 y2, hpq]; rfl, H.out.off⟩))
   · skip
     refine wReg ?_
     refine wLr rfl tyhoistwayref15_Answer 0 rfl [.int .i64 v.seq, .int .i64 v.code, .int .i64 v.index, .int .i64 v.session, .int .i64 v.pass, .slice sa v.calls.length sc] rfl rfl ?_
     refine wC (l := [.agg #[.int .i64 v.seq, .int .i64 v.code, .int .i64 v.index, .int .i64 v.session, .int .i64 v.pass, .slice sa v.calls.length sc]]) Try.func31 rfl (by kernel_rfl) (fun wc H => by have h := refPay v sa sc wc (hp_held H (by (repeat (first | exact List.Mem.head _ | apply List.Mem.tail)))) hv hp; rw [y1] at h; exact h) rfl rfl rfl rfl ?_
     intro wc H
     rintro er wd ⟨p1_1, rfl, hpq, hps, hof⟩
     replace hpq := hpq rfl
     have H2 := hp_fact (hp_fact (Lib.hid (H.out.quiet hof)) hps) hpq
     refine ⟨_, rfl, wkAt H2 ?_⟩
     clear H H2 hof
     iterate 5 refine p_refEnc rfl ?_
     refine wN ?_
     refine tN (wKK hK2 ?_)
     refine wSeqK fun KK7 hK7 => ?_
     refine wReg ?_
     refine p_refEnc rfl ?_
     refine wLd rfl tyint 2 rfl rfl ?_
     refine wQ (l := [.int .i64 4, .int .i64 v.seq, .int .i64 1073741824]) Try.func50 rfl (by kernel_rfl) (.tuple #[.string ((numV 4 v.seq 1073741824).1), .bool false]) (fun wc H => by have h := numC 4 v.seq 1073741824 wc hv.out.1; rw [y2] at h; exact h) rfl rfl rfl rfl ?_
     iterate 5 refine p_refEnc rfl ?_
     refine wN ?_
     refine tN (wKK hK7 ?_)
     refine wSeqK fun KK8 hK8 => ?_
     refine wSeqK fun KK9 hK9 => ?_
     refine wReg ?_
     iterate 6 refine p_refEnc rfl ?_
     refine wN ?_
     refine tN (wKK hK9 ?_)
     refine wCt rfl ?_
     refine wSeqK fun KK10 hK10 => ?_
     refine wReg ?_
     iterate 2 refine p_refEnc rfl ?_
     refine wN ?_
     refine tN (wKK hK10 ?_)
     refine wRet ?_
     refine tR ?_
     exact wR2 rfl rfl rfl (fun ww H => ⟨by rw [renc_no (.inr y2)]; rfl, H.out.off⟩)
 · skip
   rcases Bool.eq_false_or_eq_true ((numV 4 v.seq 1073741824).2) with y3 | y3
   · skip
     refine wReg ?_
     refine wLr rfl tyhoistwayref15_Answer 0 rfl [.int .i64 v.seq, .int .i64 v.code, .int .i64 v.index, .int .i64 v.session, .int .i64 v.pass, .slice sa v.calls.length sc] rfl rfl ?_
     refine wC (l := [.agg #[.int .i64 v.seq, .int .i64 v.code, .int .i64 v.index, .int .i64 v.session, .int .i64 v.pass, .slice sa v.calls.length sc]]) Try.func31 rfl (by kernel_rfl) (fun wc H => by have h := refPay v sa sc wc (hp_held H (by (repeat (first | exact List.Mem.head _ | apply List.Mem.tail)))) hv hp; rw [y1] at h; exact h) rfl rfl rfl rfl ?_
     intro wc H
     rintro er wd ⟨p1_1, rfl, hpq, hps, hof⟩
     replace hpq := trivial
     have H2 := hp_fact (hp_fact (Lib.hid (H.out.quiet hof)) hps) hpq
     refine ⟨_, rfl, wkAt H2 ?_⟩
     clear H H2 hof
     iterate 5 refine p_refEnc rfl ?_
     refine wN ?_
     refine tN (wKK hK2 ?_)
     refine wSeqK fun KK11 hK11 => ?_
     refine wReg ?_
     refine p_refEnc rfl ?_
     refine wLd rfl tyint 2 rfl rfl ?_
     refine wQ (l := [.int .i64 4, .int .i64 v.seq, .int .i64 1073741824]) Try.func50 rfl (by kernel_rfl) (.tuple #[.string ((numV 4 v.seq 1073741824).1), .bool true]) (fun wc H => by have h := numC 4 v.seq 1073741824 wc hv.out.1; rw [y3] at h; exact h) rfl rfl rfl rfl ?_
     iterate 5 refine p_refEnc rfl ?_
     refine wN ?_
     refine tN (wKK hK11 ?_)
     refine wSeqK fun KK12 hK12 => ?_
     refine wSeqK fun KK13 hK13 => ?_
     refine wReg ?_
     iterate 6 refine p_refEnc rfl ?_
     refine wN ?_
     refine tN (wKK hK13 ?_)
     refine wCt rfl ?_
     refine wSeqK fun KK14 hK14 => ?_
     refine wReg ?_
     iterate 2 refine p_refEnc rfl ?_
     refine wN ?_
     refine tN (wKK hK14 ?_)
     refine wRet ?_
     refine tR ?_
     exact wR2 rfl rfl rfl (fun ww H => ⟨by rw [renc_no (.inl y1)]; rfl, H.out.off⟩)
   · skip
     refine wReg ?_
     refine wLr rfl tyhoistwayref15_Answer 0 rfl [.int .i64 v.seq, .int .i64 v.code, .int .i64 v.index, .int .i64 v.session, .int .i64 v.pass, .slice sa v.calls.length sc] rfl rfl ?_
     refine wC (l := [.agg #[.int .i64 v.seq, .int .i64 v.code, .int .i64 v.index, .int .i64 v.session, .int .i64 v.pass, .slice sa v.calls.length sc]]) Try.func31 rfl (by kernel_rfl) (fun wc H => by have h := refPay v sa sc wc (hp_held H (by (repeat (first | exact List.Mem.head _ | apply List.Mem.tail)))) hv hp; rw [y1] at h; exact h) rfl rfl rfl rfl ?_
     intro wc H
     rintro er wd ⟨p1_1, rfl, hpq, hps, hof⟩
     replace hpq := trivial
     have H2 := hp_fact (hp_fact (Lib.hid (H.out.quiet hof)) hps) hpq
     refine ⟨_, rfl, wkAt H2 ?_⟩
     clear H H2 hof
     iterate 5 refine p_refEnc rfl ?_
     refine wN ?_
     refine tN (wKK hK2 ?_)
     refine wSeqK fun KK15 hK15 => ?_
     refine wReg ?_
     refine p_refEnc rfl ?_
     refine wLd rfl tyint 2 rfl rfl ?_
     refine wQ (l := [.int .i64 4, .int .i64 v.seq, .int .i64 1073741824]) Try.func50 rfl (by kernel_rfl) (.tuple #[.string ((numV 4 v.seq 1073741824).1), .bool false]) (fun wc H => by have h := numC 4 v.seq 1073741824 wc hv.out.1; rw [y3] at h; exact h) rfl rfl rfl rfl ?_
     iterate 5 refine p_refEnc rfl ?_
     refine wN ?_
     refine tN (wKK hK15 ?_)
     refine wSeqK fun KK16 hK16 => ?_
     refine wSeqK fun KK17 hK17 => ?_
     refine wReg ?_
     iterate 6 refine p_refEnc rfl ?_
     refine wN ?_
     refine tN (wKK hK17 ?_)
     refine wCt rfl ?_
     refine wSeqK fun KK18 hK18 => ?_
     refine wReg ?_
     iterate 2 refine p_refEnc rfl ?_
     refine wN ?_
     refine tN (wKK hK18 ?_)
     refine wRet ?_
     refine tR ?_
     exact wR2 rfl rfl rfl (fun ww H => ⟨by rw [renc_no (.inl y1)]; rfl, H.out.off⟩)
def tab_formC : Wk.Tab := [(64, 0, 0), (64, 1, 1), (64, 2, 2), (64, 3, 3), (64, 4, 4), (64, 5, 5)]
theorem p_formC {ops : Array Oper} {rest : List Oper} {o : Oper} {w0 : World} {Q : Exit → Act → World → Prop} {S : List Nat} {R : List Res} {K K' : Wk.Env} {N : Nat} (h : Wk.stp tab_formC N ops K o = some K') (n : Wk.Wk N S w0 K' R (wpList Try.prog ops Q rest)) : Wk.Wk N S w0 K R (wpList Try.prog ops Q (o :: rest)) := Wk.wP (T := tab_formC) (by kernel_rfl) h n
set_option maxHeartbeats 16000000 in
set_option maxRecDepth 20000 in
theorem formC (v : AnsV) (sa : Option Addr) (sc : Nat) (w : World) (hS : (rS sa sc 8 (v.calls.map callRow)).holds w) (hp : 0 ≤ v.pass ∧ v.pass ≤ 4294967295) : Calls Try.prog 28 #[.agg #[.int .i64 v.seq, .int .i64 v.code, .int .i64 v.index, .int .i64 v.session, .int .u32 v.pass, .slice sa v.calls.length sc]] w fun e w' => e = .returned (.agg #[.int .i64 v.seq, .int .i64 v.code, .int .i64 v.index, .int .i64 v.session, .int .i64 v.pass, .slice sa v.calls.length sc]) ∧ Off [] w w' := by
 have H := Lib.hid (Hp.start [] w)
 have H := hp_old H hS (by decide)
 clear hS
 refine wStart (args := [.agg #[.int .i64 v.seq, .int .i64 v.code, .int .i64 v.index, .int .i64 v.session, .int .u32 v.pass, .slice sa v.calls.length sc]]) Try.func28 rfl rfl rfl H ?_
 clear H
 show Wk 17 _ _ [(0, .agg #[.int .i64 v.seq, .int .i64 v.code, .int .i64 v.index, .int .i64 v.session, .int .u32 v.pass, .slice sa v.calls.length sc])] _ _
 have hpb : 0 ≤ v.pass ∧ v.pass ≤ 4294967295 := hp
 refine wSeqK fun KK1 hK1 => ?_
 refine wReg ?_
 refine wBx rfl rfl rfl fun b1 => ?_
 refine wAl rfl rfl tyhoistwayref15_Answer fun b2 => ?_
 refine wN ?_
 refine tN (wKK hK1 ?_)
 refine wSeqK fun KK2 hK2 => ?_
 refine wReg ?_
 refine p_formC rfl ?_
 refine wLd rfl tyint 1 rfl rfl ?_
 refine p_formC rfl ?_
 refine wLd rfl tyint 1 rfl rfl ?_
 refine p_formC rfl ?_
 refine wLd rfl tyint 1 rfl rfl ?_
 refine p_formC rfl ?_
 refine wLd rfl tyint 1 rfl rfl ?_
 refine p_formC rfl ?_
 refine wLd rfl tyuint32 1 rfl rfl ?_
 refine wE (.int .i64 (IntKind.i64.wrap v.pass)) rfl rfl rfl (fun aa ww hs _ => by have e12 := hs 12 _ rfl; have g12 := gt_of e12; simp only [execOp]; go_simp <;> omega) ?_
 refine p_formC rfl ?_
 refine wLd rfl tyS_api_Call 1 rfl rfl ?_
 refine wE (.agg #[.int .i64 v.seq, .int .i64 v.code, .int .i64 v.index, .int .i64 v.session, .int .i64 (IntKind.i64.wrap v.pass), .slice sa v.calls.length sc]) rfl rfl rfl (fun aa ww hs _ => by have e4 := hs 4 _ rfl; have g4 := gt_of e4; have e6 := hs 6 _ rfl; have g6 := gt_of e6; have e8 := hs 8 _ rfl; have g8 := gt_of e8; have e10 := hs 10 _ rfl; have g10 := gt_of e10; have e13 := hs 13 _ rfl; have g13 := gt_of e13; have e15 := hs 15 _ rfl; have g15 := gt_of e15; simp only [execOp]; go_simp <;> omega) ?_
 refine wSr rfl tyhoistwayref15_Answer 0 rfl rfl rfl rfl [.int .i64 v.seq, .int .i64 v.code, .int .i64 v.index, .int .i64 v.session, .int .i64 (IntKind.i64.wrap v.pass), .slice sa v.calls.length sc] (by first | rfl | (simp only [spl]; rfl)) ?_
 refine wN ?_
 refine tN (wKK hK2 ?_)
 refine wRet ?_
 exact wRc tyhoistwayref15_Answer rfl rfl 0 rfl rfl (fun ww H => ⟨by rw [show IntKind.i64.wrap v.pass = v.pass from IntWalk.i64_in _ (by omega)], H.out.off⟩)
def tab_refDec : Wk.Tab := [(66, 0, 0), (66, 1, 1), (66, 2, 2), (66, 3, 3), (66, 4, 4)]
theorem p_refDec {ops : Array Oper} {rest : List Oper} {o : Oper} {w0 : World} {Q : Exit → Act → World → Prop} {S : List Nat} {R : List Res} {K K' : Wk.Env} {N : Nat} (h : Wk.stp tab_refDec N ops K o = some K') (n : Wk.Wk N S w0 K' R (wpList Try.prog ops Q rest)) : Wk.Wk N S w0 K R (wpList Try.prog ops Q (o :: rest)) := Wk.wP (T := tab_refDec) (by kernel_rfl) h n
set_option maxHeartbeats 4000000 in
set_option maxRecDepth 20000 in
theorem refDec_r10 (s : ByteArray) (b2 : Nat) (b13 : Nat) (n2_1 : Nat) (s2_1 : ByteArray) (v2_1 : Bool) (b6 : Nat) (n4_1 : Nat) (s4_1 : ByteArray) (v4_1 : Bool) (n5_1 : Nat) (s5_1 : ByteArray) (v5_1 : Bool) (n6_1 : Nat) (s6_1 : ByteArray) (v6_1 : Bool) (n7_1 : Nat) (s7_1 : ByteArray) (v7_1 : Bool) (n8_1 : Nat) (s8_1 : ByteArray) (v8_1 : Bool) (n9_1 : Nat) (s9_1 : ByteArray) (v9_1 : Bool) {wa wb : World} (H : Hid (Hp [] wa wb [rP (inNumV s8_1 v8_1 2 = (n9_1, s9_1, v9_1)), rP (inNumV s7_1 v7_1 4 = (n8_1, s8_1, v8_1)), rP (inNumV s6_1 v6_1 4 = (n7_1, s7_1, v7_1)), rP (inNumV s5_1 v5_1 4 = (n6_1, s6_1, v6_1)), rP (inNumV s4_1 v4_1 1 = (n5_1, s5_1, v5_1)), rP (inNumV s2_1 v2_1 4 = (n4_1, s4_1, v4_1)), rB b6 66 [.int .i64 n4_1, .int .i64 n5_1, .int .i64 n6_1, .int .i64 n7_1, .int .i64 n8_1, .slice none 0 0], rP (inNumV s false 1 = (n2_1, s2_1, v2_1)), rB b13 96 [.string s9_1, .bool v9_1], rB b2 66 [.int .i64 0, .int .i64 0, .int .i64 0, .int .i64 0, .int .i64 0, .slice none 0 0]])) (ac0 : Act) (hz : ac0.tmps.size = 73) (so4 : ac0.eval (.tmp 4) = .pointer (some ⟨b13, 0, none⟩)) (so7 : ac0.eval (.tmp 7) = .int .i64 n9_1) {QR : Exit → Act → World → Prop} (hfin : ∀ (ac1 : Act) (wz : World), ac1.tmps.size = 73 → ac1.defers = ac0.defers → (∀ t, ([34, 35, 36, 37, 38, 39, 40, 41] : List Nat).contains t = false → ac1.eval (.tmp t) = ac0.eval (.tmp t)) → ac1.eval (.tmp 41) = .bool (v9_1 || (decide (64 < (n9_1 : Int)))) →  Hid (Hp [] wa wz [rP (inNumV s8_1 v8_1 2 = (n9_1, s9_1, v9_1)), rP (inNumV s7_1 v7_1 4 = (n8_1, s8_1, v8_1)), rP (inNumV s6_1 v6_1 4 = (n7_1, s7_1, v7_1)), rP (inNumV s5_1 v5_1 4 = (n6_1, s6_1, v6_1)), rP (inNumV s4_1 v4_1 1 = (n5_1, s5_1, v5_1)), rP (inNumV s2_1 v2_1 4 = (n4_1, s4_1, v4_1)), rB b6 66 [.int .i64 n4_1, .int .i64 n5_1, .int .i64 n6_1, .int .i64 n7_1, .int .i64 n8_1, .slice none 0 0], rP (inNumV s false 1 = (n2_1, s2_1, v2_1)), rB b13 96 [.string s9_1, .bool v9_1], rB b2 66 [.int .i64 0, .int .i64 0, .int .i64 0, .int .i64 0, .int .i64 0, .slice none 0 0]]) → QR .normal ac1 wz) : (regAt Try.f34 10).wp Try.prog QR ac0 wb := by
  refine wp_region_sq (by kernel_rfl) 73 hz (by kernel_rfl) (fun (xx : Unit) jx => nth [.pointer (some ⟨b13, 0, none⟩), .pointer (some ⟨b13, 0, none⟩), .pointer (some ⟨b13, 1, none⟩), .bool v9_1, .bool v9_1, bif !v9_1 then .int .i64 n9_1 else undef, bif !v9_1 then .bool (decide (64 < (n9_1 : Int))) else undef, .bool (v9_1 || (decide (64 < (n9_1 : Int))))] jx) (fun (LL : Nat → Bool) (xx : Unit) ww => Hp [] wa ww [rP (inNumV s8_1 v8_1 2 = (n9_1, s9_1, v9_1)), rP (inNumV s7_1 v7_1 4 = (n8_1, s8_1, v8_1)), rP (inNumV s6_1 v6_1 4 = (n7_1, s7_1, v7_1)), rP (inNumV s5_1 v5_1 4 = (n6_1, s6_1, v6_1)), rP (inNumV s4_1 v4_1 1 = (n5_1, s5_1, v5_1)), rP (inNumV s2_1 v2_1 4 = (n4_1, s4_1, v4_1)), rB b6 66 [.int .i64 n4_1, .int .i64 n5_1, .int .i64 n6_1, .int .i64 n7_1, .int .i64 n8_1, .slice none 0 0], rP (inNumV s false 1 = (n2_1, s2_1, v2_1)), rB b13 96 [.string s9_1, .bool v9_1], rB b2 66 [.int .i64 0, .int .i64 0, .int .i64 0, .int .i64 0, .int .i64 0, .slice none 0 0]]) () H.out ?_ (steps_al ?_) ?_ ?_
  · exact fun _ _ _ _ _ h => h
  · refine al_cons ?_ (al_cons ?_ (al_cons ?_ (al_cons ?_ (al_cons ?_ (al_cons ?_ (al_cons ?_ (al_cons ?_ (al_nil))))))))
    · intro LL xx ac wc sg hst hwant QQ hgo
      exact op_val hwant hgo hst _ (exec_move rfl ((sg.free 4 (by kernel_rfl)).trans so4)) rfl
    · intro LL xx ac wc sg hst hwant QQ hgo
      have se34 : ac.eval (.tmp 34) = _ := (sg.slot 0 (sg.anc 0 rfl))
      have sg34 := gt_of se34
      (try simp only [nth] at se34 sg34)
      exact op_val hwant hgo hst _ (by simp only [execOp, nth]; go_simp <;> omega) rfl
    · intro LL xx ac wc sg hst hwant QQ hgo
      have se35 : ac.eval (.tmp 35) = _ := (sg.slot 1 (sg.anc 1 rfl))
      have sg35 := gt_of se35
      (try simp only [nth] at se35 sg35)
      exact op_val hwant hgo hst _ (by simp only [execOp, nth]; go_simp <;> omega) rfl
    · intro LL xx ac wc sg hst hwant QQ hgo
      have H := Lib.hid hst
      refine hpA_load1 tybool H rfl (sg.slot 2 (sg.anc 2 rfl)) hwant (by (repeat (first | exact List.Mem.head _ | apply List.Mem.tail))) (by rfl) ?_
      exact hgo _ () _ (fun _ _ => rfl) rfl hst
    · intro LL xx ac wc sg hst hwant QQ hgo
      exact op_val hwant hgo hst _ (exec_move rfl (sg.slot 3 (sg.anc 3 rfl))) rfl
    · intro LL xx ac wc sg hst hwant QQ hgo
      have hG : (!v9_1) = true := (want_f rfl rfl (sg.slot 4 (sg.anc 4 rfl))).symm.trans hwant
      exact op_val hwant hgo hst _ (exec_move rfl ((sg.free 7 (by kernel_rfl)).trans so7)) (cI hG)
    · intro LL xx ac wc sg hst hwant QQ hgo
      have hG : (!v9_1) = true := (want_f rfl rfl (sg.slot 4 (sg.anc 4 rfl))).symm.trans hwant
      have se39 : ac.eval (.tmp 39) = _ := (cT (sg.slot 5 (sg.anc 5 rfl)) hG)
      have sg39 := gt_of se39
      (try simp only [nth] at se39 sg39)
      exact op_val hwant hgo hst _ (by simp only [execOp, nth]; go_simp <;> omega) (cI hG)
    · intro LL xx ac wc sg hst hwant QQ hgo
      exact op_val hwant hgo hst (.bool (v9_1 || (decide (64 < (n9_1 : Int))))) (exec_or (Y := decide (64 < (n9_1 : Int))) rfl (sg.slot 4 (sg.anc 4 rfl)) (fun qq => cT (sg.slot 6 (sg.anc 6 rfl)) (bk qq))) rfl
  · refine skips [5, 6] (by kernel_rfl) ?_
    refine List.forall_mem_cons.2 ⟨?_, List.forall_mem_cons.2 ⟨?_, fun _ h => by cases h⟩⟩
    · intro oo hop LL xx ac sg hwant
      cases Option.some.inj hop
      have hG : (!v9_1) = false := (want_f rfl rfl (sg.slot 4 (sg.anc 4 rfl))).symm.trans hwant
      exact ⟨cF hG, fun _ h => h⟩
    · intro oo hop LL xx ac sg hwant
      cases Option.some.inj hop
      have hG : (!v9_1) = false := (want_f rfl rfl (sg.slot 4 (sg.anc 4 rfl))).symm.trans hwant
      exact ⟨cF hG, fun _ h => h⟩
  · intro xx ac1 wz hfr hsl hst
    exact hfin ac1 wz (hfr.size.trans hz) hfr.defers (fr_keep hfr [34, 35, 36, 37, 38, 39, 40, 41] (by kernel_rfl)) (hsl 7 (by decide)) (Lib.hid hst)
set_option maxHeartbeats 4000000 in
set_option maxRecDepth 20000 in
theorem refDec_r15 (s : ByteArray) (b2 : Nat) (b13 : Nat) (n2_1 : Nat) (s2_1 : ByteArray) (v2_1 : Bool) (b6 : Nat) (n4_1 : Nat) (s4_1 : ByteArray) (v4_1 : Bool) (n5_1 : Nat) (s5_1 : ByteArray) (v5_1 : Bool) (n6_1 : Nat) (s6_1 : ByteArray) (v6_1 : Bool) (n7_1 : Nat) (s7_1 : ByteArray) (v7_1 : Bool) (n8_1 : Nat) (s8_1 : ByteArray) (v8_1 : Bool) (n9_1 : Nat) (s9_1 : ByteArray) (v9_1 : Bool) (z1rd : ¬ (64 < (n9_1 : Int))) (i : Nat) (a : Option Addr) (c : Nat) (ys : List CallV) (sl : ByteArray) (vl : Bool) (hyk : ys.length = i) (hi : i ≤ n9_1) (z2d : i < n9_1) {wa wb : World} (H : Hid (Hp [] wa wb [rA a c 25 8 (ys.map callRow), rP (inNumV s8_1 v8_1 2 = (n9_1, s9_1, v9_1)), rP (inNumV s7_1 v7_1 4 = (n8_1, s8_1, v8_1)), rP (inNumV s6_1 v6_1 4 = (n7_1, s7_1, v7_1)), rP (inNumV s5_1 v5_1 4 = (n6_1, s6_1, v6_1)), rP (inNumV s4_1 v4_1 1 = (n5_1, s5_1, v5_1)), rP (inNumV s2_1 v2_1 4 = (n4_1, s4_1, v4_1)), rB b6 66 [.int .i64 n4_1, .int .i64 n5_1, .int .i64 n6_1, .int .i64 n7_1, .int .i64 n8_1, .slice a ys.length c], rP (inNumV s false 1 = (n2_1, s2_1, v2_1)), rB b13 96 [.string sl, .bool vl], rB b2 66 [.int .i64 0, .int .i64 0, .int .i64 0, .int .i64 0, .int .i64 0, .slice none 0 0]])) (ac0 : Act) (hz : ac0.tmps.size = 73) (so4 : ac0.eval (.tmp 4) = .pointer (some ⟨b13, 0, none⟩)) (so6 : ac0.eval (.tmp 6) = .pointer (some ⟨b6, 0, none⟩)) {QR : Exit → Act → World → Prop} (hfin : ∀ (x15_3 : CallV) (g15_3 : Bool) (s15_3 : ByteArray) (v15_3 : Bool) (b52 : Nat) (a53 : Option Addr) (c53 : Nat) (ac1 : Act) (wz : World), ac1.tmps.size = 73 → ac1.defers = ac0.defers → (∀ t, ([48, 49, 50, 51, 52, 53, 54] : List Nat).contains t = false → ac1.eval (.tmp t) = ac0.eval (.tmp t)) →  Hid (Hp [] wa wz [rB b52 25 [.int .i64 x15_3.id, .int .i64 x15_3.kind, .int .i64 x15_3.src, .int .i64 x15_3.dst, .int .i64 x15_3.car, .int .i64 x15_3.state, .int .i64 x15_3.owner, .int .i64 x15_3.born], rP (dCall (sl, vl) = (x15_3, g15_3, (s15_3, v15_3))), rA a53 c53 25 8 ((ys ++ [x15_3]).map callRow), rP (inNumV s8_1 v8_1 2 = (n9_1, s9_1, v9_1)), rP (inNumV s7_1 v7_1 4 = (n8_1, s8_1, v8_1)), rP (inNumV s6_1 v6_1 4 = (n7_1, s7_1, v7_1)), rP (inNumV s5_1 v5_1 4 = (n6_1, s6_1, v6_1)), rP (inNumV s4_1 v4_1 1 = (n5_1, s5_1, v5_1)), rP (inNumV s2_1 v2_1 4 = (n4_1, s4_1, v4_1)), rB b6 66 [.int .i64 n4_1, .int .i64 n5_1, .int .i64 n6_1, .int .i64 n7_1, .int .i64 n8_1, .slice a53 ((ys ++ [x15_3]).length) c53], rP (inNumV s false 1 = (n2_1, s2_1, v2_1)), rB b13 96 [.string s15_3, .bool v15_3], rB b2 66 [.int .i64 0, .int .i64 0, .int .i64 0, .int .i64 0, .int .i64 0, .slice none 0 0]]) → QR .normal ac1 wz) : (regAt Try.f34 15).wp Try.prog QR ac0 wb := by
  refine wp_region_st mixedP ⟨[0, 1, 0, 1, 2, 3, 4, 5], by kernel_rfl⟩ [[], [0], [], [2], [2, 3], [0, 1, 2, 3, 4], [0, 1, 2, 3, 4, 5], [0, 1, 2, 3, 4, 5, 6]] (by kernel_rfl) (by kernel_rfl) 73 hz (by kernel_rfl) (fun (xx : CallV × Bool × ByteArray × Bool × Nat × Option Addr × Nat) jx => match xx with | (x15_3, g15_3, s15_3, v15_3, b52, a53, c53) => nth [.pointer (some ⟨b6, 5, none⟩), .slice a ys.length c, .pointer (some ⟨b13, 0, none⟩), .agg #[.int .i64 x15_3.id, .int .i64 x15_3.kind, .int .i64 x15_3.src, .int .i64 x15_3.dst, .int .i64 x15_3.car, .int .i64 x15_3.state, .int .i64 x15_3.owner, .int .i64 x15_3.born], .slice (some ⟨b52, 0, none⟩) 1 1, .slice a53 ((ys ++ [x15_3]).length) c53, .pointer (some ⟨b6, 5, none⟩), undef] jx) (fun (LL : Nat → Bool) (xx : CallV × Bool × ByteArray × Bool × Nat × Option Addr × Nat) ww => match xx with | (x15_3, g15_3, s15_3, v15_3, b52, a53, c53) => Hp [] wa ww (bif LL 3 then (bif LL 4 then (bif LL 5 then (bif LL 7 then [rB b52 25 [.int .i64 x15_3.id, .int .i64 x15_3.kind, .int .i64 x15_3.src, .int .i64 x15_3.dst, .int .i64 x15_3.car, .int .i64 x15_3.state, .int .i64 x15_3.owner, .int .i64 x15_3.born], rP (dCall (sl, vl) = (x15_3, g15_3, (s15_3, v15_3))), rA a53 c53 25 8 ((ys ++ [x15_3]).map callRow), rP (inNumV s8_1 v8_1 2 = (n9_1, s9_1, v9_1)), rP (inNumV s7_1 v7_1 4 = (n8_1, s8_1, v8_1)), rP (inNumV s6_1 v6_1 4 = (n7_1, s7_1, v7_1)), rP (inNumV s5_1 v5_1 4 = (n6_1, s6_1, v6_1)), rP (inNumV s4_1 v4_1 1 = (n5_1, s5_1, v5_1)), rP (inNumV s2_1 v2_1 4 = (n4_1, s4_1, v4_1)), rB b6 66 [.int .i64 n4_1, .int .i64 n5_1, .int .i64 n6_1, .int .i64 n7_1, .int .i64 n8_1, .slice a53 ((ys ++ [x15_3]).length) c53], rP (inNumV s false 1 = (n2_1, s2_1, v2_1)), rB b13 96 [.string s15_3, .bool v15_3], rB b2 66 [.int .i64 0, .int .i64 0, .int .i64 0, .int .i64 0, .int .i64 0, .slice none 0 0]] else [rB b52 25 [.int .i64 x15_3.id, .int .i64 x15_3.kind, .int .i64 x15_3.src, .int .i64 x15_3.dst, .int .i64 x15_3.car, .int .i64 x15_3.state, .int .i64 x15_3.owner, .int .i64 x15_3.born], rP (dCall (sl, vl) = (x15_3, g15_3, (s15_3, v15_3))), rA a53 c53 25 8 ((ys ++ [x15_3]).map callRow), rP (inNumV s8_1 v8_1 2 = (n9_1, s9_1, v9_1)), rP (inNumV s7_1 v7_1 4 = (n8_1, s8_1, v8_1)), rP (inNumV s6_1 v6_1 4 = (n7_1, s7_1, v7_1)), rP (inNumV s5_1 v5_1 4 = (n6_1, s6_1, v6_1)), rP (inNumV s4_1 v4_1 1 = (n5_1, s5_1, v5_1)), rP (inNumV s2_1 v2_1 4 = (n4_1, s4_1, v4_1)), rB b6 66 [.int .i64 n4_1, .int .i64 n5_1, .int .i64 n6_1, .int .i64 n7_1, .int .i64 n8_1, .slice a ys.length c], rP (inNumV s false 1 = (n2_1, s2_1, v2_1)), rB b13 96 [.string s15_3, .bool v15_3], rB b2 66 [.int .i64 0, .int .i64 0, .int .i64 0, .int .i64 0, .int .i64 0, .slice none 0 0]]) else [rB b52 25 [.int .i64 x15_3.id, .int .i64 x15_3.kind, .int .i64 x15_3.src, .int .i64 x15_3.dst, .int .i64 x15_3.car, .int .i64 x15_3.state, .int .i64 x15_3.owner, .int .i64 x15_3.born], rP (dCall (sl, vl) = (x15_3, g15_3, (s15_3, v15_3))), rA a c 25 8 (ys.map callRow), rP (inNumV s8_1 v8_1 2 = (n9_1, s9_1, v9_1)), rP (inNumV s7_1 v7_1 4 = (n8_1, s8_1, v8_1)), rP (inNumV s6_1 v6_1 4 = (n7_1, s7_1, v7_1)), rP (inNumV s5_1 v5_1 4 = (n6_1, s6_1, v6_1)), rP (inNumV s4_1 v4_1 1 = (n5_1, s5_1, v5_1)), rP (inNumV s2_1 v2_1 4 = (n4_1, s4_1, v4_1)), rB b6 66 [.int .i64 n4_1, .int .i64 n5_1, .int .i64 n6_1, .int .i64 n7_1, .int .i64 n8_1, .slice a ys.length c], rP (inNumV s false 1 = (n2_1, s2_1, v2_1)), rB b13 96 [.string s15_3, .bool v15_3], rB b2 66 [.int .i64 0, .int .i64 0, .int .i64 0, .int .i64 0, .int .i64 0, .slice none 0 0]]) else [rP (dCall (sl, vl) = (x15_3, g15_3, (s15_3, v15_3))), rA a c 25 8 (ys.map callRow), rP (inNumV s8_1 v8_1 2 = (n9_1, s9_1, v9_1)), rP (inNumV s7_1 v7_1 4 = (n8_1, s8_1, v8_1)), rP (inNumV s6_1 v6_1 4 = (n7_1, s7_1, v7_1)), rP (inNumV s5_1 v5_1 4 = (n6_1, s6_1, v6_1)), rP (inNumV s4_1 v4_1 1 = (n5_1, s5_1, v5_1)), rP (inNumV s2_1 v2_1 4 = (n4_1, s4_1, v4_1)), rB b6 66 [.int .i64 n4_1, .int .i64 n5_1, .int .i64 n6_1, .int .i64 n7_1, .int .i64 n8_1, .slice a ys.length c], rP (inNumV s false 1 = (n2_1, s2_1, v2_1)), rB b13 96 [.string s15_3, .bool v15_3], rB b2 66 [.int .i64 0, .int .i64 0, .int .i64 0, .int .i64 0, .int .i64 0, .slice none 0 0]]) else [rA a c 25 8 (ys.map callRow), rP (inNumV s8_1 v8_1 2 = (n9_1, s9_1, v9_1)), rP (inNumV s7_1 v7_1 4 = (n8_1, s8_1, v8_1)), rP (inNumV s6_1 v6_1 4 = (n7_1, s7_1, v7_1)), rP (inNumV s5_1 v5_1 4 = (n6_1, s6_1, v6_1)), rP (inNumV s4_1 v4_1 1 = (n5_1, s5_1, v5_1)), rP (inNumV s2_1 v2_1 4 = (n4_1, s4_1, v4_1)), rB b6 66 [.int .i64 n4_1, .int .i64 n5_1, .int .i64 n6_1, .int .i64 n7_1, .int .i64 n8_1, .slice a ys.length c], rP (inNumV s false 1 = (n2_1, s2_1, v2_1)), rB b13 96 [.string sl, .bool vl], rB b2 66 [.int .i64 0, .int .i64 0, .int .i64 0, .int .i64 0, .int .i64 0, .slice none 0 0]])) (default, default, default, default, default, default, default) H.out.drew ?_ (steps_al ?_) ?_ ?_
  · intro L1 L2 xx ww hL sg
    have lh3 := hL 3 (by decide)
    have lh4 := hL 4 (by decide)
    have lh5 := hL 5 (by decide)
    have lh7 := hL 7 (by decide)
    simp only [lh3, lh4, lh5, lh7] at sg
    exact sg
  · refine al_cons ?_ (al_cons ?_ (al_cons ?_ (al_cons ?_ (al_cons ?_ (al_cons ?_ (al_cons ?_ (al_cons ?_ (al_nil))))))))
    · intro LL xx ac wc sg hst hwant QQ hgo
      obtain ⟨x15_3, g15_3, s15_3, v15_3, b52, a53, c53⟩ := xx
      have se6 : ac.eval (.tmp 6) = _ := ((sg.free 6 (by kernel_rfl)).trans so6)
      have sg6 := gt_of se6
      exact op_val hwant hgo hst _ (by simp only [execOp, nth]; go_simp <;> omega) rfl
    · intro LL xx ac wc sg hst hwant QQ hgo
      obtain ⟨x15_3, g15_3, s15_3, v15_3, b52, a53, c53⟩ := xx
      rcases Bool.eq_false_or_eq_true (LL 3) with lh3 | lh3
      · skip
        rcases Bool.eq_false_or_eq_true (LL 4) with lh4 | lh4
        · skip
          have H := Lib.hid hst
          simp only [lh3, lh4, sg.des 5 rfl, sg.des 7 rfl, cond_true, cond_false] at H
          refine hpA_load1 tyS_api_Call H rfl (sg.slot 0 (sg.anc 0 rfl)) hwant (by (repeat (first | exact List.Mem.head _ | apply List.Mem.tail))) (by rfl) ?_
          exact hgo _ (x15_3, g15_3, s15_3, v15_3, b52, a53, c53) _ (fun _ _ => rfl) rfl hst
        · skip
          have H := Lib.hid hst
          simp only [lh3, lh4, sg.des 5 rfl, sg.des 7 rfl, cond_true, cond_false] at H
          refine hpA_load1 tyS_api_Call H rfl (sg.slot 0 (sg.anc 0 rfl)) hwant (by (repeat (first | exact List.Mem.head _ | apply List.Mem.tail))) (by rfl) ?_
          exact hgo _ (x15_3, g15_3, s15_3, v15_3, b52, a53, c53) _ (fun _ _ => rfl) rfl hst
      · skip
        rcases Bool.eq_false_or_eq_true (LL 4) with lh4 | lh4
        · skip
          exact absurd (sg.down 4 3 lh4 rfl) (by rw [lh3]; decide)
        · skip
          have H := Lib.hid hst
          simp only [lh3, lh4, sg.des 5 rfl, sg.des 7 rfl, cond_true, cond_false] at H
          refine hpA_load1 tyS_api_Call H rfl (sg.slot 0 (sg.anc 0 rfl)) hwant (by (repeat (first | exact List.Mem.head _ | apply List.Mem.tail))) (by rfl) ?_
          exact hgo _ (x15_3, g15_3, s15_3, v15_3, b52, a53, c53) _ (fun _ _ => rfl) rfl hst
    · intro LL xx ac wc sg hst hwant QQ hgo
      obtain ⟨x15_3, g15_3, s15_3, v15_3, b52, a53, c53⟩ := xx
      exact op_val hwant hgo hst _ (exec_move rfl ((sg.free 4 (by kernel_rfl)).trans so4)) rfl
    · intro LL xx ac wc sg hst hwant QQ hgo
      obtain ⟨_, _, _, _, b52, a53, c53⟩ := xx
      have se50 : ac.eval (.tmp 50) = _ := (sg.slot 2 (sg.anc 2 rfl))
      have sg50 := gt_of se50
      (try simp only [nth] at se50 sg50)
      have H := Lib.hid hst
      simp only [sg.self, sg.des 4 rfl, sg.des 5 rfl, sg.des 7 rfl, cond_true, cond_false] at H
      refine op_call hwant hgo 55 #[.pointer (some ⟨b13, 0, none⟩)] (by simp only [execOp]; go_simp) (sevenC b13 sl vl wc (H.out.at 9 rfl)) ?_
      rintro er wd ⟨x15_3, g15_3, s15_3, v15_3, rfl, hq1, hb1, hof⟩
      have H2 := hp_fact (hp_one H (i := 9) rfl hb1 hof) hq1
      exact ⟨_, (x15_3, g15_3, s15_3, v15_3, b52, a53, c53), rfl, (sg.agree (x' := (x15_3, g15_3, s15_3, v15_3, b52, a53, c53)) (n := 8) rfl (by (iterate 8 (refine ix_cons (by first | exact fun _ => rfl | exact no sg.self | exact no (sg.des _ rfl)) ?_)); exact ix_nil)), rfl, (by simp only [(show upd LL 3 3 = true from rfl), (show upd LL 3 4 = LL 4 from rfl), sg.des 4 rfl, (show upd LL 3 5 = LL 5 from rfl), sg.des 5 rfl, (show upd LL 3 7 = LL 7 from rfl), sg.des 7 rfl, cond_true, cond_false]; exact H2.out)⟩
    · intro LL xx ac wc sg hst hwant QQ hgo
      obtain ⟨x15_3, g15_3, s15_3, v15_3, _, a53, c53⟩ := xx
      have se51 : ac.eval (.tmp 51) = _ := (sg.slot 3 (sg.anc 3 rfl))
      have sg51 := gt_of se51
      (try simp only [nth] at se51 sg51)
      have H := Lib.hid hst
      simp only [sg.anc 3 rfl, sg.self, sg.des 5 rfl, sg.des 7 rfl, cond_true, cond_false] at H
      refine hpA_bslice Try.underlying62 tyapi_Call H rfl rfl (by decide) (by decide) (by first | (go_simp; rfl) | rfl | (simp; rfl)) ?_
      intro wd b52 H2
      exact hgo _ (x15_3, g15_3, s15_3, v15_3, b52, a53, c53) _ (sg.agree (x' := (x15_3, g15_3, s15_3, v15_3, b52, a53, c53)) (n := 8) rfl (by (iterate 8 (refine ix_cons (by first | exact fun _ => rfl | exact no sg.self | exact no (sg.des _ rfl)) ?_)); exact ix_nil)) rfl (by simp only [(show upd LL 4 3 = LL 3 from rfl), sg.anc 3 rfl, (show upd LL 4 4 = true from rfl), (show upd LL 4 5 = LL 5 from rfl), sg.des 5 rfl, (show upd LL 4 7 = LL 7 from rfl), sg.des 7 rfl, cond_true, cond_false]; exact H2.out)
    · intro LL xx ac wc sg hst hwant QQ hgo
      obtain ⟨x15_3, g15_3, s15_3, v15_3, b52, _, _⟩ := xx
      have H := Lib.hid hst
      simp only [sg.anc 3 rfl, sg.anc 4 rfl, sg.self, sg.des 7 rfl, cond_true, cond_false] at H
      refine hp_append (news := [callRow x15_3]) elCall H rfl rfl 2 rfl (sg.slot 1 (sg.anc 1 rfl)) (by simp) (sg.slot 4 (sg.anc 4 rfl)) rfl (hp_single (e := 25) H (by (repeat (first | exact List.Mem.head _ | apply List.Mem.tail))) rfl (by simp [callRow, Value.oneCell'])) (by simp; omega) (by decide) ?_
      intro wd a53 c53 H2
      rw [show ys.map callRow ++ [callRow x15_3] = (ys ++ [x15_3]).map callRow by simp] at H2 ⊢
      rw [List.length_map]
      exact hgo _ (x15_3, g15_3, s15_3, v15_3, b52, a53, c53) _ (sg.agree (x' := (x15_3, g15_3, s15_3, v15_3, b52, a53, c53)) (n := 8) rfl (by (iterate 8 (refine ix_cons (by first | exact fun _ => rfl | exact no sg.self | exact no (sg.des _ rfl)) ?_)); exact ix_nil)) rfl (by simp only [(show upd LL 5 3 = LL 3 from rfl), sg.anc 3 rfl, (show upd LL 5 4 = LL 4 from rfl), sg.anc 4 rfl, (show upd LL 5 5 = true from rfl), (show upd LL 5 7 = LL 7 from rfl), sg.des 7 rfl, cond_true, cond_false]; exact H2.out)
    · intro LL xx ac wc sg hst hwant QQ hgo
      obtain ⟨x15_3, g15_3, s15_3, v15_3, b52, a53, c53⟩ := xx
      have se6 : ac.eval (.tmp 6) = _ := ((sg.free 6 (by kernel_rfl)).trans so6)
      have sg6 := gt_of se6
      exact op_val hwant hgo hst _ (by simp only [execOp, nth]; go_simp <;> omega) rfl
    · intro LL xx ac wc sg hst hwant QQ hgo
      obtain ⟨x15_3, g15_3, s15_3, v15_3, b52, a53, c53⟩ := xx
      have H := Lib.hid hst
      simp only [sg.anc 3 rfl, sg.anc 4 rfl, sg.anc 5 rfl, sg.self, cond_true, cond_false] at H
      refine hpA_store1 tyS_api_Call H rfl rfl (sg.slot 6 (sg.anc 6 rfl)) (sg.slot 5 (sg.anc 5 rfl)) (by rfl) (by repeat (first | apply Put.head | apply Put.tail)) (by simp [List.length_cons]) (by first | rfl | (simp [List.length_cons, Value.oneCell'])) (by rfl) rfl ?_
      intro wd H2
      exact hgo _ (x15_3, g15_3, s15_3, v15_3, b52, a53, c53) _ (sg.agree (x' := (x15_3, g15_3, s15_3, v15_3, b52, a53, c53)) (n := 8) rfl (by (iterate 8 (refine ix_cons (by first | exact fun _ => rfl | exact no sg.self | exact no (sg.des _ rfl)) ?_)); exact ix_nil)) rfl (by simp only [(show upd LL 7 3 = LL 3 from rfl), sg.anc 3 rfl, (show upd LL 7 4 = LL 4 from rfl), sg.anc 4 rfl, (show upd LL 7 5 = LL 5 from rfl), sg.anc 5 rfl, (show upd LL 7 7 = true from rfl), cond_true, cond_false]; exact H2.out)
  · exact skips [] (by kernel_rfl) (fun _ h => by cases h)
  · intro xx ac1 wz hfr hsl hst
    obtain ⟨x15_3, g15_3, s15_3, v15_3, b52, a53, c53⟩ := xx
    exact hfin x15_3 g15_3 s15_3 v15_3 b52 a53 c53 ac1 wz (hfr.size.trans hz) hfr.defers (fr_keep hfr [48, 49, 50, 51, 52, 53, 54] (by kernel_rfl)) (Lib.hid hst)
set_option maxHeartbeats 4000000 in
set_option maxRecDepth 20000 in
theorem refDec_r17 (s : ByteArray) (b2 : Nat) (b13 : Nat) (n2_1 : Nat) (s2_1 : ByteArray) (v2_1 : Bool) (b6 : Nat) (n4_1 : Nat) (s4_1 : ByteArray) (v4_1 : Bool) (n5_1 : Nat) (s5_1 : ByteArray) (v5_1 : Bool) (n6_1 : Nat) (s6_1 : ByteArray) (v6_1 : Bool) (n7_1 : Nat) (s7_1 : ByteArray) (v7_1 : Bool) (n8_1 : Nat) (s8_1 : ByteArray) (v8_1 : Bool) (n9_1 : Nat) (s9_1 : ByteArray) (v9_1 : Bool) (z1rd : ¬ (64 < (n9_1 : Int))) (i : Nat) (a : Option Addr) (c : Nat) (ys : List CallV) (sl : ByteArray) (vl : Bool) (hyk : ys.length = i) (hi : i ≤ n9_1) (z2d : ¬ (i < n9_1)) (hpv : PassOk ⟨n4_1, n5_1, n6_1, n7_1, n8_1, ys⟩) {wa wb : World} (H : Hid (Hp [] wa wb [rA a c 25 8 (ys.map callRow), rP (inNumV s8_1 v8_1 2 = (n9_1, s9_1, v9_1)), rP (inNumV s7_1 v7_1 4 = (n8_1, s8_1, v8_1)), rP (inNumV s6_1 v6_1 4 = (n7_1, s7_1, v7_1)), rP (inNumV s5_1 v5_1 4 = (n6_1, s6_1, v6_1)), rP (inNumV s4_1 v4_1 1 = (n5_1, s5_1, v5_1)), rP (inNumV s2_1 v2_1 4 = (n4_1, s4_1, v4_1)), rB b6 66 [.int .i64 n4_1, .int .i64 n5_1, .int .i64 n6_1, .int .i64 n7_1, .int .i64 n8_1, .slice a ys.length c], rP (inNumV s false 1 = (n2_1, s2_1, v2_1)), rB b13 96 [.string sl, .bool vl], rB b2 66 [.int .i64 0, .int .i64 0, .int .i64 0, .int .i64 0, .int .i64 0, .slice none 0 0]])) (ac0 : Act) (hz : ac0.tmps.size = 73) (so0 : ac0.eval (.tmp 0) = .string s) (so5 : ac0.eval (.tmp 5) = .int .i64 n2_1) (so9 : ac0.eval (.tmp 9) = .string ((encodeV (⟨n4_1, n5_1, n6_1, n7_1, n8_1, ys⟩ : AnsV)).1)) (so10 : ac0.eval (.tmp 10) = .bool ((encodeV (⟨n4_1, n5_1, n6_1, n7_1, n8_1, ys⟩ : AnsV)).2 == 0)) {QR : Exit → Act → World → Prop} (hfin : ∀ (ac1 : Act) (wz : World), ac1.tmps.size = 73 → ac1.defers = ac0.defers → (∀ t, ([60, 61, 62, 63, 64, 65, 66, 67, 68, 69, 70] : List Nat).contains t = false → ac1.eval (.tmp t) = ac0.eval (.tmp t)) → ac1.eval (.tmp 70) = .bool ((((n2_1 : Int) != 128) || (!((encodeV (⟨n4_1, n5_1, n6_1, n7_1, n8_1, ys⟩ : AnsV)).2 == 0))) || (!(((encodeV (⟨n4_1, n5_1, n6_1, n7_1, n8_1, ys⟩ : AnsV)).1).toList == s.toList))) →  Hid (Hp [] wa wz [rA a c 25 8 (ys.map callRow), rP (inNumV s8_1 v8_1 2 = (n9_1, s9_1, v9_1)), rP (inNumV s7_1 v7_1 4 = (n8_1, s8_1, v8_1)), rP (inNumV s6_1 v6_1 4 = (n7_1, s7_1, v7_1)), rP (inNumV s5_1 v5_1 4 = (n6_1, s6_1, v6_1)), rP (inNumV s4_1 v4_1 1 = (n5_1, s5_1, v5_1)), rP (inNumV s2_1 v2_1 4 = (n4_1, s4_1, v4_1)), rB b6 66 [.int .i64 n4_1, .int .i64 n5_1, .int .i64 n6_1, .int .i64 n7_1, .int .i64 n8_1, .slice a ys.length c], rP (inNumV s false 1 = (n2_1, s2_1, v2_1)), rB b13 96 [.string sl, .bool vl], rB b2 66 [.int .i64 0, .int .i64 0, .int .i64 0, .int .i64 0, .int .i64 0, .slice none 0 0]]) → QR .normal ac1 wz) : (regAt Try.f34 17).wp Try.prog QR ac0 wb := by
  refine wp_region_sq (by kernel_rfl) 73 hz (by kernel_rfl) (fun (xx : Unit) jx => nth [.int .i64 n2_1, .bool ((n2_1 : Int) != 128), .bool ((n2_1 : Int) != 128), bif !((n2_1 : Int) != 128) then .bool ((encodeV (⟨n4_1, n5_1, n6_1, n7_1, n8_1, ys⟩ : AnsV)).2 == 0) else undef, bif !((n2_1 : Int) != 128) then .bool (!((encodeV (⟨n4_1, n5_1, n6_1, n7_1, n8_1, ys⟩ : AnsV)).2 == 0)) else undef, .bool (((n2_1 : Int) != 128) || (!((encodeV (⟨n4_1, n5_1, n6_1, n7_1, n8_1, ys⟩ : AnsV)).2 == 0))), .bool (((n2_1 : Int) != 128) || (!((encodeV (⟨n4_1, n5_1, n6_1, n7_1, n8_1, ys⟩ : AnsV)).2 == 0))), bif !(((n2_1 : Int) != 128) || (!((encodeV (⟨n4_1, n5_1, n6_1, n7_1, n8_1, ys⟩ : AnsV)).2 == 0))) then .string ((encodeV (⟨n4_1, n5_1, n6_1, n7_1, n8_1, ys⟩ : AnsV)).1) else undef, bif !(((n2_1 : Int) != 128) || (!((encodeV (⟨n4_1, n5_1, n6_1, n7_1, n8_1, ys⟩ : AnsV)).2 == 0))) then .string s else undef, bif !(((n2_1 : Int) != 128) || (!((encodeV (⟨n4_1, n5_1, n6_1, n7_1, n8_1, ys⟩ : AnsV)).2 == 0))) then .bool (!(((encodeV (⟨n4_1, n5_1, n6_1, n7_1, n8_1, ys⟩ : AnsV)).1).toList == s.toList)) else undef, .bool ((((n2_1 : Int) != 128) || (!((encodeV (⟨n4_1, n5_1, n6_1, n7_1, n8_1, ys⟩ : AnsV)).2 == 0))) || (!(((encodeV (⟨n4_1, n5_1, n6_1, n7_1, n8_1, ys⟩ : AnsV)).1).toList == s.toList)))] jx) (fun (LL : Nat → Bool) (xx : Unit) ww => Hp [] wa ww [rA a c 25 8 (ys.map callRow), rP (inNumV s8_1 v8_1 2 = (n9_1, s9_1, v9_1)), rP (inNumV s7_1 v7_1 4 = (n8_1, s8_1, v8_1)), rP (inNumV s6_1 v6_1 4 = (n7_1, s7_1, v7_1)), rP (inNumV s5_1 v5_1 4 = (n6_1, s6_1, v6_1)), rP (inNumV s4_1 v4_1 1 = (n5_1, s5_1, v5_1)), rP (inNumV s2_1 v2_1 4 = (n4_1, s4_1, v4_1)), rB b6 66 [.int .i64 n4_1, .int .i64 n5_1, .int .i64 n6_1, .int .i64 n7_1, .int .i64 n8_1, .slice a ys.length c], rP (inNumV s false 1 = (n2_1, s2_1, v2_1)), rB b13 96 [.string sl, .bool vl], rB b2 66 [.int .i64 0, .int .i64 0, .int .i64 0, .int .i64 0, .int .i64 0, .slice none 0 0]]) () H.out ?_ (steps_al ?_) ?_ ?_
  · exact fun _ _ _ _ _ h => h
  · refine al_cons ?_ (al_cons ?_ (al_cons ?_ (al_cons ?_ (al_cons ?_ (al_cons ?_ (al_cons ?_ (al_cons ?_ (al_cons ?_ (al_cons ?_ (al_cons ?_ (al_nil)))))))))))
    · intro LL xx ac wc sg hst hwant QQ hgo
      exact op_val hwant hgo hst _ (exec_move rfl ((sg.free 5 (by kernel_rfl)).trans so5)) rfl
    · intro LL xx ac wc sg hst hwant QQ hgo
      have se60 : ac.eval (.tmp 60) = _ := (sg.slot 0 (sg.anc 0 rfl))
      have sg60 := gt_of se60
      (try simp only [nth] at se60 sg60)
      exact op_val hwant hgo hst _ (by simp only [execOp, nth]; go_simp <;> omega) rfl
    · intro LL xx ac wc sg hst hwant QQ hgo
      exact op_val hwant hgo hst _ (exec_move rfl (sg.slot 1 (sg.anc 1 rfl))) rfl
    · intro LL xx ac wc sg hst hwant QQ hgo
      have hG : (!((n2_1 : Int) != 128)) = true := (want_f rfl rfl (sg.slot 2 (sg.anc 2 rfl))).symm.trans hwant
      exact op_val hwant hgo hst _ (exec_move rfl ((sg.free 10 (by kernel_rfl)).trans so10)) (cI hG)
    · intro LL xx ac wc sg hst hwant QQ hgo
      have hG : (!((n2_1 : Int) != 128)) = true := (want_f rfl rfl (sg.slot 2 (sg.anc 2 rfl))).symm.trans hwant
      have se63 : ac.eval (.tmp 63) = _ := (cT (sg.slot 3 (sg.anc 3 rfl)) hG)
      have sg63 := gt_of se63
      (try simp only [nth] at se63 sg63)
      exact op_val hwant hgo hst _ (by simp only [execOp, nth]; go_simp <;> omega) (cI hG)
    · intro LL xx ac wc sg hst hwant QQ hgo
      exact op_val hwant hgo hst (.bool (((n2_1 : Int) != 128) || (!((encodeV (⟨n4_1, n5_1, n6_1, n7_1, n8_1, ys⟩ : AnsV)).2 == 0)))) (exec_or (Y := !((encodeV (⟨n4_1, n5_1, n6_1, n7_1, n8_1, ys⟩ : AnsV)).2 == 0)) rfl (sg.slot 2 (sg.anc 2 rfl)) (fun qq => cT (sg.slot 4 (sg.anc 4 rfl)) (bk qq))) rfl
    · intro LL xx ac wc sg hst hwant QQ hgo
      exact op_val hwant hgo hst _ (exec_move rfl (sg.slot 5 (sg.anc 5 rfl))) rfl
    · intro LL xx ac wc sg hst hwant QQ hgo
      have hG : (!(((n2_1 : Int) != 128) || (!((encodeV (⟨n4_1, n5_1, n6_1, n7_1, n8_1, ys⟩ : AnsV)).2 == 0)))) = true := (want_f rfl rfl (sg.slot 6 (sg.anc 6 rfl))).symm.trans hwant
      exact op_val hwant hgo hst _ (exec_move rfl ((sg.free 9 (by kernel_rfl)).trans so9)) (cI hG)
    · intro LL xx ac wc sg hst hwant QQ hgo
      have hG : (!(((n2_1 : Int) != 128) || (!((encodeV (⟨n4_1, n5_1, n6_1, n7_1, n8_1, ys⟩ : AnsV)).2 == 0)))) = true := (want_f rfl rfl (sg.slot 6 (sg.anc 6 rfl))).symm.trans hwant
      exact op_val hwant hgo hst _ (exec_move rfl ((sg.free 0 (by kernel_rfl)).trans so0)) (cI hG)
    · intro LL xx ac wc sg hst hwant QQ hgo
      have hG : (!(((n2_1 : Int) != 128) || (!((encodeV (⟨n4_1, n5_1, n6_1, n7_1, n8_1, ys⟩ : AnsV)).2 == 0)))) = true := (want_f rfl rfl (sg.slot 6 (sg.anc 6 rfl))).symm.trans hwant
      have se67 : ac.eval (.tmp 67) = _ := (cT (sg.slot 7 (sg.anc 7 rfl)) hG)
      have sg67 := gt_of se67
      have se68 : ac.eval (.tmp 68) = _ := (cT (sg.slot 8 (sg.anc 8 rfl)) hG)
      have sg68 := gt_of se68
      (try simp only [nth] at se67 sg67 se68 sg68)
      exact op_val hwant hgo hst _ (by simp only [execOp, nth]; go_simp <;> omega) (cI hG)
    · intro LL xx ac wc sg hst hwant QQ hgo
      exact op_val hwant hgo hst (.bool ((((n2_1 : Int) != 128) || (!((encodeV (⟨n4_1, n5_1, n6_1, n7_1, n8_1, ys⟩ : AnsV)).2 == 0))) || (!(((encodeV (⟨n4_1, n5_1, n6_1, n7_1, n8_1, ys⟩ : AnsV)).1).toList == s.toList)))) (exec_or (Y := !(((encodeV (⟨n4_1, n5_1, n6_1, n7_1, n8_1, ys⟩ : AnsV)).1).toList == s.toList)) rfl (sg.slot 6 (sg.anc 6 rfl)) (fun qq => cT (sg.slot 9 (sg.anc 9 rfl)) (bk qq))) rfl
  · refine skips [3, 4, 7, 8, 9] (by kernel_rfl) ?_
    refine List.forall_mem_cons.2 ⟨?_, List.forall_mem_cons.2 ⟨?_, List.forall_mem_cons.2 ⟨?_, List.forall_mem_cons.2 ⟨?_, List.forall_mem_cons.2 ⟨?_, fun _ h => by cases h⟩⟩⟩⟩⟩
    · intro oo hop LL xx ac sg hwant
      cases Option.some.inj hop
      have hG : (!((n2_1 : Int) != 128)) = false := (want_f rfl rfl (sg.slot 2 (sg.anc 2 rfl))).symm.trans hwant
      exact ⟨cF hG, fun _ h => h⟩
    · intro oo hop LL xx ac sg hwant
      cases Option.some.inj hop
      have hG : (!((n2_1 : Int) != 128)) = false := (want_f rfl rfl (sg.slot 2 (sg.anc 2 rfl))).symm.trans hwant
      exact ⟨cF hG, fun _ h => h⟩
    · intro oo hop LL xx ac sg hwant
      cases Option.some.inj hop
      have hG : (!(((n2_1 : Int) != 128) || (!((encodeV (⟨n4_1, n5_1, n6_1, n7_1, n8_1, ys⟩ : AnsV)).2 == 0)))) = false := (want_f rfl rfl (sg.slot 6 (sg.anc 6 rfl))).symm.trans hwant
      exact ⟨cF hG, fun _ h => h⟩
    · intro oo hop LL xx ac sg hwant
      cases Option.some.inj hop
      have hG : (!(((n2_1 : Int) != 128) || (!((encodeV (⟨n4_1, n5_1, n6_1, n7_1, n8_1, ys⟩ : AnsV)).2 == 0)))) = false := (want_f rfl rfl (sg.slot 6 (sg.anc 6 rfl))).symm.trans hwant
      exact ⟨cF hG, fun _ h => h⟩
    · intro oo hop LL xx ac sg hwant
      cases Option.some.inj hop
      have hG : (!(((n2_1 : Int) != 128) || (!((encodeV (⟨n4_1, n5_1, n6_1, n7_1, n8_1, ys⟩ : AnsV)).2 == 0)))) = false := (want_f rfl rfl (sg.slot 6 (sg.anc 6 rfl))).symm.trans hwant
      exact ⟨cF hG, fun _ h => h⟩
  · intro xx ac1 wz hfr hsl hst
    exact hfin ac1 wz (hfr.size.trans hz) hfr.defers (fr_keep hfr [60, 61, 62, 63, 64, 65, 66, 67, 68, 69, 70] (by kernel_rfl)) (hsl 10 (by decide)) (Lib.hid hst)
set_option maxHeartbeats 16000000 in
set_option maxRecDepth 20000 in
theorem refDec (s : ByteArray) (w : World) : Calls Try.prog 34 #[.string s] w fun e w' => ∃ (v : AnsV) (sa : Option Addr) (sc : Nat), e = .returned (.tuple #[.agg #[.int .i64 v.seq, .int .i64 v.code, .int .i64 v.index, .int .i64 v.session, .int .i64 v.pass, .slice sa v.calls.length sc], .bool ((decodeV s).2 == 0)]) ∧ (((decodeV s).2 == 0) = true → v = (decodeV s).1) ∧ (rS sa sc 8 (v.calls.map callRow)).holds w' ∧ (∀ q ∈ (rS sa sc 8 (v.calls.map callRow)).foot, w.heap.size ≤ q) ∧ Off [] w w' := by
 have H := Lib.hid (Hp.start [] w)
 refine wStart (args := [.string s]) Try.func34 rfl rfl rfl H ?_
 clear H
 show Wk 73 _ _ [(0, .string s)] _ _
 refine wSeqK fun KK1 hK1 => ?_
 refine wReg ?_
 refine wAl rfl rfl tyhoistwayref15_Answer fun b2 => ?_
 refine p_refDec rfl ?_
 refine wN ?_
 refine tN (wKK hK1 ?_)
 refine wSeqK fun KK2 hK2 => ?_
 refine wReg ?_
 refine p_refDec rfl ?_
 refine wE (.agg #[.string s, .bool false]) rfl rfl rfl (fun aa ww hs _ => by have e11 := hs 11 _ rfl; have g11 := gt_of e11; simp only [execOp]; go_simp <;> omega) ?_
 refine wBx rfl rfl rfl fun b13 => ?_
 refine p_refDec rfl ?_
 refine wN ?_
 refine tN (wKK hK2 ?_)
 refine wSeqK fun KK3 hK3 => ?_
 refine wReg ?_
 refine p_refDec rfl ?_
 refine wC (l := [.pointer (some ⟨b13, 0, none⟩), .int .i64 1]) Try.func44 rfl (by kernel_rfl) (fun wc H => rinXH H (i := 0) (n := 1) rfl) rfl rfl rfl rfl ?_
 intro wc H
 rintro er wd ⟨n2_1, s2_1, v2_1, rfl, hq1, H2⟩
 replace H2 := hp_fact H2 hq1
 refine ⟨_, rfl, wkAt H2 ?_⟩
 clear H H2
 refine p_refDec rfl ?_
 refine wN ?_
 refine tN (wKK hK3 ?_)
 refine wSeqK fun KK4 hK4 => ?_
 refine wReg ?_
 refine wE (.agg #[.int .i64 0, .int .i64 0, .int .i64 0, .int .i64 0, .int .i64 0, .slice none 0 0]) rfl rfl rfl (fun aa ww hs _ => by simp only [execOp]; go_simp <;> omega) ?_
 refine wAl rfl rfl tyhoistwayref15_Answer fun b6 => ?_
 refine wSr rfl tyhoistwayref15_Answer 0 rfl rfl rfl rfl [.int .i64 0, .int .i64 0, .int .i64 0, .int .i64 0, .int .i64 0, .slice none 0 0] (by first | rfl | (simp only [spl]; rfl)) ?_
 refine wN ?_
 refine tN (wKK hK4 ?_)
 refine wSeqK fun KK5 hK5 => ?_
 refine wReg ?_
 refine p_refDec rfl ?_
 refine wC (l := [.pointer (some ⟨b13, 0, none⟩), .int .i64 4]) Try.func44 rfl (by kernel_rfl) (fun wc H => rinXH H (i := 2) (n := 4) rfl) rfl rfl rfl rfl ?_
 intro wc H
 rintro er wd ⟨n4_1, s4_1, v4_1, rfl, hq1, H2⟩
 replace H2 := hp_fact H2 hq1
 refine ⟨_, rfl, wkAt H2 ?_⟩
 clear H H2
 refine p_refDec rfl ?_
 refine wSt rfl tyint 1 rfl rfl rfl rfl ?_
 refine wN ?_
 refine tN (wKK hK5 ?_)
 refine wSeqK fun KK6 hK6 => ?_
 refine wReg ?_
 refine p_refDec rfl ?_
 refine wC (l := [.pointer (some ⟨b13, 0, none⟩), .int .i64 1]) Try.func44 rfl (by kernel_rfl) (fun wc H => rinXH H (i := 3) (n := 1) rfl) rfl rfl rfl rfl ?_
 intro wc H
 rintro er wd ⟨n5_1, s5_1, v5_1, rfl, hq1, H2⟩
 replace H2 := hp_fact H2 hq1
 refine ⟨_, rfl, wkAt H2 ?_⟩
 clear H H2
 refine p_refDec rfl ?_
 refine wSt rfl tyint 2 rfl rfl rfl rfl ?_
 refine wN ?_
 refine tN (wKK hK6 ?_)
 refine wSeqK fun KK7 hK7 => ?_
 refine wReg ?_
 refine p_refDec rfl ?_
 refine wC (l := [.pointer (some ⟨b13, 0, none⟩), .int .i64 4]) Try.func44 rfl (by kernel_rfl) (fun wc H => rinXH H (i := 4) (n := 4) rfl) rfl rfl rfl rfl ?_
 intro wc H
 rintro er wd ⟨n6_1, s6_1, v6_1, rfl, hq1, H2⟩
 replace H2 := hp_fact H2 hq1
 refine ⟨_, rfl, wkAt H2 ?_⟩
 clear H H2
 refine p_refDec rfl ?_
 refine wSt rfl tyint 3 rfl rfl rfl rfl ?_
 refine wN ?_
 refine tN (wKK hK7 ?_)
 refine wSeqK fun KK8 hK8 => ?_
 refine wReg ?_
 refine p_refDec rfl ?_
 refine wC (l := [.pointer (some ⟨b13, 0, none⟩), .int .i64 4]) Try.func44 rfl (by kernel_rfl) (fun wc H => rinXH H (i := 5) (n := 4) rfl) rfl rfl rfl rfl ?_
 intro wc H
 rintro er wd ⟨n7_1, s7_1, v7_1, rfl, hq1, H2⟩
 replace H2 := hp_fact H2 hq1
 refine ⟨_, rfl, wkAt H2 ?_⟩
 clear H H2
 refine p_refDec rfl ?_
 refine wSt rfl tyint 4 rfl rfl rfl rfl ?_
 refine wN ?_
 refine tN (wKK hK8 ?_)
 refine wSeqK fun KK9 hK9 => ?_
 refine wReg ?_
 refine p_refDec rfl ?_
 refine wC (l := [.pointer (some ⟨b13, 0, none⟩), .int .i64 4]) Try.func44 rfl (by kernel_rfl) (fun wc H => rinXH H (i := 6) (n := 4) rfl) rfl rfl rfl rfl ?_
 intro wc H
 rintro er wd ⟨n8_1, s8_1, v8_1, rfl, hq1, H2⟩
 replace H2 := hp_fact H2 hq1
 refine ⟨_, rfl, wkAt H2 ?_⟩
 clear H H2
 refine p_refDec rfl ?_
 refine wSt rfl tyint 5 rfl rfl rfl rfl ?_
 refine wN ?_
 refine tN (wKK hK9 ?_)
 refine wSeqK fun KK10 hK10 => ?_
 refine wReg ?_
 refine p_refDec rfl ?_
 refine wC (l := [.pointer (some ⟨b13, 0, none⟩), .int .i64 2]) Try.func44 rfl (by kernel_rfl) (fun wc H => rinXH H (i := 7) (n := 2) rfl) rfl rfl rfl rfl ?_
 intro wc H
 rintro er wd ⟨n9_1, s9_1, v9_1, rfl, hq1, H2⟩
 replace H2 := hp_fact H2 hq1
 refine ⟨_, rfl, wkAt H2 ?_⟩
 clear H H2
 refine p_refDec rfl ?_
 refine wN ?_
 refine tN (wKK hK10 ?_)
 refine wSeqK fun KK11 hK11 => ?_
 refine wSeqK fun KK12 hK12 => ?_
 intro aa ww nn dd hs H
 refine refDec_r10 s b2 b13 n2_1 s2_1 v2_1 b6 n4_1 s4_1 v4_1 n5_1 s5_1 v5_1 n6_1 s6_1 v6_1 n7_1 s7_1 v7_1 n8_1 s8_1 v8_1 n9_1 s9_1 v9_1 H aa nn (hs 4 _ rfl) (hs 7 _ rfl) ?_
 intro ab wv nn2 dd2 kp o41 H2
 refine wIn nn2 (dd2.trans dd) (Sat.cons (Sat.cons (Sat.cons (Sat.cons (Sat.cons (Sat.cons (Sat.cons (Sat.cons (sat_nil ab) ((kp 7 rfl).trans (hs 7 _ rfl))) ((kp 6 rfl).trans (hs 6 _ rfl))) ((kp 5 rfl).trans (hs 5 _ rfl))) ((kp 4 rfl).trans (hs 4 _ rfl))) ((kp 3 rfl).trans (hs 3 _ rfl))) ((kp 2 rfl).trans (hs 2 _ rfl))) ((kp 0 rfl).trans (hs 0 _ rfl))) o41) H2 ?_
 clear hs H kp H2 dd dd2 nn nn2 o41
 refine tN (wKK hK12 ?_)
 refine wCond (E := v9_1 || (decide (64 < (n9_1 : Int)))) rfl (fun z1 => ?_) (fun z1 => ?_)
 · skip
   refine wSeqK fun KK13 hK13 => ?_
   refine wReg ?_
   refine wE (.agg #[.int .i64 0, .int .i64 0, .int .i64 0, .int .i64 0, .int .i64 0, .slice none 0 0]) rfl rfl rfl (fun aa ww hs _ => by simp only [execOp]; go_simp <;> omega) ?_
   refine wSr rfl tyhoistwayref15_Answer 9 rfl rfl rfl rfl [.int .i64 0, .int .i64 0, .int .i64 0, .int .i64 0, .int .i64 0, .slice none 0 0] (by first | rfl | (simp only [spl]; rfl)) ?_
   refine p_refDec rfl ?_
   refine wN ?_
   refine tN (wKK hK13 ?_)
   refine wRet ?_
   refine tR ?_
   exact wRct tyhoistwayref15_Answer rfl rfl rfl 9 rfl rfl (fun ww H => (by have q0 := hp_told H (p := inNumV s8_1 v8_1 2 = (n9_1, s9_1, v9_1)) (by (repeat (first | exact List.Mem.head _ | apply List.Mem.tail))); have q1 := hp_told H (p := inNumV s7_1 v7_1 4 = (n8_1, s8_1, v8_1)) (by (repeat (first | exact List.Mem.head _ | apply List.Mem.tail))); have q2 := hp_told H (p := inNumV s6_1 v6_1 4 = (n7_1, s7_1, v7_1)) (by (repeat (first | exact List.Mem.head _ | apply List.Mem.tail))); have q3 := hp_told H (p := inNumV s5_1 v5_1 4 = (n6_1, s6_1, v6_1)) (by (repeat (first | exact List.Mem.head _ | apply List.Mem.tail))); have q4 := hp_told H (p := inNumV s4_1 v4_1 1 = (n5_1, s5_1, v5_1)) (by (repeat (first | exact List.Mem.head _ | apply List.Mem.tail))); have q5 := hp_told H (p := inNumV s2_1 v2_1 4 = (n4_1, s4_1, v4_1)) (by (repeat (first | exact List.Mem.head _ | apply List.Mem.tail))); have q6 := hp_told H (p := inNumV s false 1 = (n2_1, s2_1, v2_1)) (by (repeat (first | exact List.Mem.head _ | apply List.Mem.tail))); have hno := rdec_out z1 q6 q5 q4 q3 q2 q1 q0; exact ⟨⟨0, 0, 0, 0, 0, []⟩, none, 0, (by rw [hno]; rfl), (fun e => by rw [hno] at e; cases e), (rS_none _).1, (rS_none _).2, H.out.off⟩))
 · skip
   have z1l : v9_1 = false := Reg.ol z1
   have z1r : (decide (64 < (n9_1 : Int))) = false := Reg.orr z1
   have z1rd : ¬ (64 < (n9_1 : Int)) := of_decide_eq_false z1r
   refine wSk ?_
   refine tN (wKK hK11 ?_)
   refine wSeqK fun KK14 hK14 => ?_
   refine wSeqK fun KK15 hK15 => ?_
   refine wReg ?_
   refine p_refDec rfl ?_
   refine wN ?_
   refine tN (wKK hK15 ?_)
   refine wBlk ?_
   intro aa ww nn dd hs H
   have H := hp_nil H 25 8
   replace H : Hid (Hp [] w ww [rA none 0 25 8 (([] : List CallV).map callRow), rP (inNumV s8_1 v8_1 2 = (n9_1, s9_1, v9_1)), rP (inNumV s7_1 v7_1 4 = (n8_1, s8_1, v8_1)), rP (inNumV s6_1 v6_1 4 = (n7_1, s7_1, v7_1)), rP (inNumV s5_1 v5_1 4 = (n6_1, s6_1, v6_1)), rP (inNumV s4_1 v4_1 1 = (n5_1, s5_1, v5_1)), rP (inNumV s2_1 v2_1 4 = (n4_1, s4_1, v4_1)), rB b6 66 [.int .i64 n4_1, .int .i64 n5_1, .int .i64 n6_1, .int .i64 n7_1, .int .i64 n8_1, .slice none 0 0], rP (inNumV s false 1 = (n2_1, s2_1, v2_1)), rB b13 96 [.string s9_1, .bool v9_1], rB b2 66 [.int .i64 0, .int .i64 0, .int .i64 0, .int .i64 0, .int .i64 0, .slice none 0 0]]) := H
   refine wIn nn dd hs H ?_
   refine wLoop (fun ab wv => ∃ i : Nat, ∃ a : Option Addr, ∃ c : Nat, ∃ ys : List CallV, ∃ sl : ByteArray, ∃ vl : Bool, Hid (rCalls i (s9_1, v9_1) = (ys, (sl, vl))) ∧ ys.length = i ∧ i ≤ n9_1 ∧ Hid (∀ y ∈ ys, smC y) ∧ ab.tmps.size = 73 ∧ ab.defers = [] ∧ Sat [(0, .string s), (2, .pointer (some ⟨b2, 0, none⟩)), (3, .bool false), (4, .pointer (some ⟨b13, 0, none⟩)), (5, .int .i64 n2_1), (6, .pointer (some ⟨b6, 0, none⟩)), (7, .int .i64 n9_1), (8, .int .i64 i), (41, .bool (v9_1 || (decide (64 < (n9_1 : Int)))))] ab ∧ Hid (Hp [] w wv [rA a c 25 8 (ys.map callRow), rP (inNumV s8_1 v8_1 2 = (n9_1, s9_1, v9_1)), rP (inNumV s7_1 v7_1 4 = (n8_1, s8_1, v8_1)), rP (inNumV s6_1 v6_1 4 = (n7_1, s7_1, v7_1)), rP (inNumV s5_1 v5_1 4 = (n6_1, s6_1, v6_1)), rP (inNumV s4_1 v4_1 1 = (n5_1, s5_1, v5_1)), rP (inNumV s2_1 v2_1 4 = (n4_1, s4_1, v4_1)), rB b6 66 [.int .i64 n4_1, .int .i64 n5_1, .int .i64 n6_1, .int .i64 n7_1, .int .i64 n8_1, .slice a ys.length c], rP (inNumV s false 1 = (n2_1, s2_1, v2_1)), rB b13 96 [.string sl, .bool vl], rB b2 66 [.int .i64 0, .int .i64 0, .int .i64 0, .int .i64 0, .int .i64 0, .slice none 0 0]])) (fun ab _ => n9_1 - (intOf (ab.eval (.tmp 8))).toNat) (fun aa ww nn dd hs H => ⟨0, none, 0, [], s9_1, v9_1, (Lib.hid rfl), rfl, (Nat.zero_le _), (Lib.hid (by intro y hy; cases hy)), nn, dd, (sat_sub ⟨rfl, rfl, rfl, rfl, rfl, rfl, rfl, rfl, rfl, trivial⟩ hs), H⟩) ?_
   rintro a1 wv ⟨i, a, c, ys, sl, vl, hrc, hyk, hi, hsy, nn, dd, hs, H⟩
   have mu1_8 := hs 8 _ rfl
   refine wIn nn dd hs H ?_
   clear nn dd hs H
   refine wSeqK fun KK16 hK16 => ?_
   refine wSeqK fun KK17 hK17 => ?_
   refine wReg ?_
   iterate 3 refine p_refDec rfl ?_
   refine wB (c := decide (i < n9_1)) 45 rfl (by simp) ?_
   refine wN ?_
   refine tN (wKK hK17 ?_)
   refine wCond (E := decide (i < n9_1)) rfl (fun z2 => ?_) (fun z2 => ?_)
   · skip
     have z2d : i < n9_1 := of_decide_eq_true z2
     refine wSk ?_
     refine tN (wKK hK16 ?_)
     refine wSeqK fun KK18 hK18 => ?_
     refine wBlk ?_
     intro aa ww nn dd hs H
     refine refDec_r15 s b2 b13 n2_1 s2_1 v2_1 b6 n4_1 s4_1 v4_1 n5_1 s5_1 v5_1 n6_1 s6_1 v6_1 n7_1 s7_1 v7_1 n8_1 s8_1 v8_1 n9_1 s9_1 v9_1 z1rd i a c ys sl vl hyk hi z2d H aa nn (hs 4 _ rfl) (hs 6 _ rfl) ?_
     intro x15_3 g15_3 s15_3 v15_3 b52 a53 c53 ab wv nn2 dd2 kp H2
     refine wIn nn2 (dd2.trans dd) (Sat.cons (Sat.cons (Sat.cons (Sat.cons (Sat.cons (Sat.cons (Sat.cons (Sat.cons (Sat.cons (Sat.cons (sat_nil ab) ((kp 45 rfl).trans (hs 45 _ rfl))) ((kp 41 rfl).trans (hs 41 _ rfl))) ((kp 8 rfl).trans (hs 8 _ rfl))) ((kp 7 rfl).trans (hs 7 _ rfl))) ((kp 6 rfl).trans (hs 6 _ rfl))) ((kp 5 rfl).trans (hs 5 _ rfl))) ((kp 4 rfl).trans (hs 4 _ rfl))) ((kp 3 rfl).trans (hs 3 _ rfl))) ((kp 2 rfl).trans (hs 2 _ rfl))) ((kp 0 rfl).trans (hs 0 _ rfl))) H2 ?_
     clear hs H kp H2 dd dd2 nn nn2
     refine bN (tN (wKK hK18 ?_))
     refine wReg ?_
     iterate 2 refine p_refDec rfl ?_
     refine wI 47 rfl (IntWalk.i64_in _ (by omega)) ?_
     refine p_refDec rfl ?_
     refine wN ?_
     refine tN ?_
     intro aa ww nn dd hs H
     have hdc := hp_told H (p := dCall (sl, vl) = (x15_3, g15_3, (s15_3, v15_3))) (by (repeat (first | exact List.Mem.head _ | apply List.Mem.tail)))
     replace H := hp_front H 12 rfl
     replace H := hp_front H 12 rfl
     replace H := hp_front H 12 rfl
     replace H := hp_front H 12 rfl
     replace H := hp_front H 12 rfl
     replace H := hp_front H 12 rfl
     replace H := hp_front H 12 rfl
     replace H := hp_front H 12 rfl
     replace H := hp_front H 12 rfl
     replace H := hp_front H 12 rfl
     replace H := hp_front H 12 rfl
     refine ⟨⟨i + 1, a53, c53, (ys ++ [x15_3]), s15_3, v15_3, (Lib.hid (rcalls_next hrc.out hdc)), (by simp; omega), (by omega), (Lib.hid (sm_next hsy.out (dcall_sm hdc))), nn, dd, (sat_sub ⟨rfl, rfl, rfl, rfl, rfl, rfl, rfl, rfl, rfl, trivial⟩ hs), (hp_take H 11)⟩, ?_⟩
     have m8 := hs 8 _ rfl
     simp only [mu1_8, m8, intOf]
     omega
   · skip
     have z2d : ¬ (i < n9_1) := of_decide_eq_false z2
     refine wEx ?_
     refine tX (tX (bX (tN (wKK hK14 ?_))))
     refine wSeqK fun KK19 hK19 => ?_
     intro aa ww nn dd hs H
     have q0 := hp_told H (p := inNumV s8_1 v8_1 2 = (n9_1, s9_1, v9_1)) (by (repeat (first | exact List.Mem.head _ | apply List.Mem.tail)))
     have q1 := hp_told H (p := inNumV s7_1 v7_1 4 = (n8_1, s8_1, v8_1)) (by (repeat (first | exact List.Mem.head _ | apply List.Mem.tail)))
     have q2 := hp_told H (p := inNumV s6_1 v6_1 4 = (n7_1, s7_1, v7_1)) (by (repeat (first | exact List.Mem.head _ | apply List.Mem.tail)))
     have q3 := hp_told H (p := inNumV s5_1 v5_1 4 = (n6_1, s6_1, v6_1)) (by (repeat (first | exact List.Mem.head _ | apply List.Mem.tail)))
     have q4 := hp_told H (p := inNumV s4_1 v4_1 1 = (n5_1, s5_1, v5_1)) (by (repeat (first | exact List.Mem.head _ | apply List.Mem.tail)))
     have q5 := hp_told H (p := inNumV s2_1 v2_1 4 = (n4_1, s4_1, v4_1)) (by (repeat (first | exact List.Mem.head _ | apply List.Mem.tail)))
     have q6 := hp_told H (p := inNumV s false 1 = (n2_1, s2_1, v2_1)) (by (repeat (first | exact List.Mem.head _ | apply List.Mem.tail)))
     have hsv : Hid (smA ⟨n4_1, n5_1, n6_1, n7_1, n8_1, ys⟩) := Lib.hid ⟨num_sm q5, num_sm q4, num_sm q3, num_sm q2, num_sm q1, hsy.out⟩
     have hpv : PassOk ⟨n4_1, n5_1, n6_1, n7_1, n8_1, ys⟩ := rdec_pass q1 _ _ _ _ _
     refine wIn nn dd hs H ?_
     refine wReg ?_
     refine wLr rfl tyhoistwayref15_Answer 7 rfl [.int .i64 n4_1, .int .i64 n5_1, .int .i64 n6_1, .int .i64 n7_1, .int .i64 n8_1, .slice a ys.length c] rfl rfl ?_
     refine wQ (l := [.agg #[.int .i64 n4_1, .int .i64 n5_1, .int .i64 n6_1, .int .i64 n7_1, .int .i64 n8_1, .slice a ys.length c]]) Try.func29 rfl (by kernel_rfl) (.tuple #[.string ((encodeV (⟨n4_1, n5_1, n6_1, n7_1, n8_1, ys⟩ : AnsV)).1), .bool ((encodeV (⟨n4_1, n5_1, n6_1, n7_1, n8_1, ys⟩ : AnsV)).2 == 0)]) (fun wc H => refEnc (⟨n4_1, n5_1, n6_1, n7_1, n8_1, ys⟩ : AnsV) a c wc (hp_held (hp_read H 0 rfl) (by (repeat (first | exact List.Mem.head _ | apply List.Mem.tail)))) hsv hpv) rfl rfl rfl rfl ?_
     iterate 5 refine p_refDec rfl ?_
     refine wN ?_
     refine tN (wKK hK19 ?_)
     refine wSeqK fun KK20 hK20 => ?_
     refine wSeqK fun KK21 hK21 => ?_
     intro aa ww nn dd hs H
     refine refDec_r17 s b2 b13 n2_1 s2_1 v2_1 b6 n4_1 s4_1 v4_1 n5_1 s5_1 v5_1 n6_1 s6_1 v6_1 n7_1 s7_1 v7_1 n8_1 s8_1 v8_1 n9_1 s9_1 v9_1 z1rd i a c ys sl vl hyk hi z2d hpv H aa nn (hs 0 _ rfl) (hs 5 _ rfl) (hs 9 _ rfl) (hs 10 _ rfl) ?_
     intro ab wv nn2 dd2 kp o70 H2
     refine wIn nn2 (dd2.trans dd) (Sat.cons (Sat.cons (Sat.cons (Sat.cons (Sat.cons (Sat.cons (Sat.cons (Sat.cons (Sat.cons (Sat.cons (Sat.cons (Sat.cons (Sat.cons (sat_nil ab) ((kp 45 rfl).trans (hs 45 _ rfl))) ((kp 41 rfl).trans (hs 41 _ rfl))) ((kp 10 rfl).trans (hs 10 _ rfl))) ((kp 9 rfl).trans (hs 9 _ rfl))) ((kp 8 rfl).trans (hs 8 _ rfl))) ((kp 7 rfl).trans (hs 7 _ rfl))) ((kp 6 rfl).trans (hs 6 _ rfl))) ((kp 5 rfl).trans (hs 5 _ rfl))) ((kp 4 rfl).trans (hs 4 _ rfl))) ((kp 3 rfl).trans (hs 3 _ rfl))) ((kp 2 rfl).trans (hs 2 _ rfl))) ((kp 0 rfl).trans (hs 0 _ rfl))) o70) H2 ?_
     clear hs H kp H2 dd dd2 nn nn2 o70
     refine tN (wKK hK21 ?_)
     refine wCond (E := (((n2_1 : Int) != 128) || (!((encodeV (⟨n4_1, n5_1, n6_1, n7_1, n8_1, ys⟩ : AnsV)).2 == 0))) || (!(((encodeV (⟨n4_1, n5_1, n6_1, n7_1, n8_1, ys⟩ : AnsV)).1).toList == s.toList))) rfl (fun z3 => ?_) (fun z3 => ?_)
     · skip
       refine wSeqK fun KK22 hK22 => ?_
       refine wReg ?_
       refine wE (.agg #[.int .i64 0, .int .i64 0, .int .i64 0, .int .i64 0, .int .i64 0, .slice none 0 0]) rfl rfl rfl (fun aa ww hs _ => by simp only [execOp]; go_simp <;> omega) ?_
       refine wSr rfl tyhoistwayref15_Answer 10 rfl rfl rfl rfl [.int .i64 0, .int .i64 0, .int .i64 0, .int .i64 0, .int .i64 0, .slice none 0 0] (by first | rfl | (simp only [spl]; rfl)) ?_
       refine p_refDec rfl ?_
       refine wN ?_
       refine tN (wKK hK22 ?_)
       refine wRet ?_
       refine tR ?_
       exact wRct tyhoistwayref15_Answer rfl rfl rfl 10 rfl rfl (fun ww H => (by have hin : i = n9_1 := (by omega); have hr2 := hrc.out; rw [hin] at hr2; have hno := rdec_no hr2 z3 q6 q5 q4 q3 q2 q1 q0; exact ⟨⟨0, 0, 0, 0, 0, []⟩, none, 0, (by rw [hno]; rfl), (fun e => by rw [hno] at e; cases e), (rS_none _).1, (rS_none _).2, H.out.off⟩))
     · skip
       have z3l : (((n2_1 : Int) != 128) || (!((encodeV (⟨n4_1, n5_1, n6_1, n7_1, n8_1, ys⟩ : AnsV)).2 == 0))) = false := Reg.ol z3
       have z3ll : ((n2_1 : Int) != 128) = false := Reg.ol z3l
       have z3llo : ((n2_1 : Int) == 128) = true := neq_f z3ll
       have z3lr : (!((encodeV (⟨n4_1, n5_1, n6_1, n7_1, n8_1, ys⟩ : AnsV)).2 == 0)) = false := Reg.orr z3l
       have z3lrn : ((encodeV (⟨n4_1, n5_1, n6_1, n7_1, n8_1, ys⟩ : AnsV)).2 == 0) = true := Reg.bt z3lr
       have z3lrno : ((encodeV (⟨n4_1, n5_1, n6_1, n7_1, n8_1, ys⟩ : AnsV)).2 != 0) = false := eqq_t z3lrn
       have z3r : (!(((encodeV (⟨n4_1, n5_1, n6_1, n7_1, n8_1, ys⟩ : AnsV)).1).toList == s.toList)) = false := Reg.orr z3
       have z3rn : (((encodeV (⟨n4_1, n5_1, n6_1, n7_1, n8_1, ys⟩ : AnsV)).1).toList == s.toList) = true := Reg.bt z3r
       have z3rno : (((encodeV (⟨n4_1, n5_1, n6_1, n7_1, n8_1, ys⟩ : AnsV)).1).toList != s.toList) = false := eqq_t z3rn
       refine wSk ?_
       refine tN (wKK hK20 ?_)
       refine wSeqK fun KK23 hK23 => ?_
       refine wReg ?_
       refine wLr rfl tyhoistwayref15_Answer 7 rfl [.int .i64 n4_1, .int .i64 n5_1, .int .i64 n6_1, .int .i64 n7_1, .int .i64 n8_1, .slice a ys.length c] rfl rfl ?_
       refine wSr rfl tyhoistwayref15_Answer 10 rfl rfl rfl rfl [.int .i64 n4_1, .int .i64 n5_1, .int .i64 n6_1, .int .i64 n7_1, .int .i64 n8_1, .slice a ys.length c] (by first | rfl | (simp only [spl]; rfl)) ?_
       refine p_refDec rfl ?_
       refine wN ?_
       refine tN (wKK hK23 ?_)
       refine wRet ?_
       exact wRct tyhoistwayref15_Answer rfl rfl rfl 10 rfl rfl (fun ww H => (by have hdy := rdec_yes (k0 := n2_1) hpv z3; have hg := give_A (H.out.at 0 rfl) (fresh0 H (l := 0) rfl); exact ⟨(⟨n4_1, n5_1, n6_1, n7_1, n8_1, ys⟩ : AnsV), a, c, (by rw [show ((decodeV s).2 == 0) = true from by rw [hdy]; rfl]), (fun _ => by rw [hdy]), hg.1, hg.2, H.out.off⟩))
end Go.Proofs.Ytloemjhhedkhiaa.Nt
