/- Layer 35: all events. -/
import Derived.Test.YthflkhalipkdgaaGreatProg
import Derived.Below
import Derived.WalkKit
import Derived.KernelRfl
import Derived.RowKit3
import Derived.Deep.LoopGhost
import Derived.Deep.QuietTactic
import Derived.BigQuiet
import Derived.WideLaws
import Derived.Deep.DeepCutAuto
import Derived.Deep.CutBlock
import Derived.Lib.Hide
import Derived.Laws.BitsLemmas
import Derived.Laws.Bits64
import Derived.Laws.BitsAllLaws
import Derived.IntWalk
import Derived.Outline
import Derived.WalkSpells
import Derived.Test.YthflkhalipkdgaaGreatGA
import Derived.Test.YthflkhalipkdgaaGreatMn4
namespace Go.Proofs.YthflkhalipkdgaaGreat.Mn
set_option maxRecDepth 20000
open Go.RowKit Go.Proofs.YthflkhalipkdgaaGreat.Mem Go.Proofs.YthflkhalipkdgaaGreat.Reg Go.Proofs.YthflkhalipkdgaaGreat.Wk Go.Proofs.YthflkhalipkdgaaGreat.Si Go.Proofs.YthflkhalipkdgaaGreat.Ca Go.Proofs.YthflkhalipkdgaaGreat.Ms Go.Proofs.YthflkhalipkdgaaGreat.Fr Go.Proofs.YthflkhalipkdgaaGreat.Bld
set_option linter.unusedVariables false
set_option linter.unusedSimpArgs false

def evAll (s : Nat) (c : Cfg) (n : Int) : List EvV := bif ((checkV c != 0) || decide (n < 0)) || decide (16384 < n) then [] else eventsV s c n.toNat
theorem foot_sub {a : Option Addr} {rows : List (List Value)} {q : Nat} (h : q ∈ footR a rows) : q ∈ footA a := by
  cases rows with
  | nil => cases h
  | cons r l => exact h
def lenOf : Value → Nat
  | .slice _ n _ => n
  | _ => 0
theorem hellosV_len {c : Cfg} (h : (2 ≤ c.floors ∧ c.floors ≤ 32) ∧ (1 ≤ c.cars ∧ c.cars ≤ 4) ∧ 1 ≤ c.lines ∧ c.lines ≤ 8) : (hellosV c).length = 2 * c.lines.toNat := hellos_len c _
def tab_eventsN : Wk.Tab := []
theorem p_eventsN {ops : Array Oper} {rest : List Oper} {o : Oper} {w0 : World} {Q : Exit → Act → World → Prop} {S : List Nat} {R : List Res} {K K' : Wk.Env} {N : Nat} (h : Wk.stp tab_eventsN N ops K o = some K') (n : Wk.Wk N S w0 K' R (wpList Tryz.prog ops Q rest)) : Wk.Wk N S w0 K R (wpList Tryz.prog ops Q (o :: rest)) := Wk.wP (T := tab_eventsN) (by kernel_rfl) h n
set_option maxHeartbeats 16000000 in
set_option maxRecDepth 20000 in
theorem eventsN (m : Nat) (s : Nat) (c : Cfg) (n : Nat) (w : World) (hm : Blk w m #[.int .u64 s] 61) (hsl : s < 18446744073709551616) : Calls Tryz.prog 15 #[.pointer (some ⟨m, 0, none⟩), .agg (cA c), .int .i64 n] w fun e w' => ∃ a' c', e = .returned (.slice a' (evAll s c ↑n).length c') ∧ (rS a' c' 3 ((evAll s c ↑n).map evRow)).holds w' ∧ (∀ q ∈ (rS a' c' 3 ((evAll s c ↑n).map evRow)).foot, w.heap.size ≤ q) ∧ Off [m] w w' := by
 have H := Lib.hid (Hp.start [] w)
 have H := hp_one hm
 clear hm
 refine wStart (args := [.pointer (some ⟨m, 0, none⟩), .agg (cA c), .int .i64 n]) Tryz.func15 rfl rfl rfl H ?_
 clear H
 show Wk 47 _ _ [(0, .pointer (some ⟨m, 0, none⟩)), (1, .agg (cA c)), (2, .int .i64 n)] _ _
 refine wSeqK fun KK1 hK1 => ?_
 refine wReg ?_
 refine wBx rfl rfl rfl fun b4 => ?_
 refine p_eventsN rfl ?_
 refine wN ?_
 refine tN (wKK hK1 ?_)
 refine wSeqK fun KK2 hK2 => ?_
 refine wSeqK fun KK3 hK3 => ?_
 refine wReg ?_
 refine p_eventsN rfl ?_
 refine wE (.bool false) rfl rfl rfl (fun aa ww hs _ => by exact exec_pnil_eql rfl (hs _ _ rfl) rfl Tryz.underlying28) ?_
 refine p_eventsN rfl ?_
 refine wLr rfl tyapi_Config 0 rfl (cL c) rfl rfl ?_
 refine wQ (l := [.agg (cA c)]) Tryz.func22 rfl (by kernel_rfl) (.int .i64 (checkV c)) (fun wc H => check c wc) rfl rfl rfl rfl ?_
 iterate 3 refine p_eventsN rfl ?_
 refine wCut 3 [(21, .bool (((checkV c) != 0) || (decide ((n : Int) < 0)))), (0, .pointer (some ⟨m, 0, none⟩)), (1, .agg (cA c)), (2, .int .i64 n), (4, .pointer (some ⟨b4, 0, none⟩)), (6, .slice none 0 0)] ?_ ?_
 · intro KK hKK
   rcases Bool.eq_false_or_eq_true ((checkV c) != 0) with u1 | u1
   · skip
     refine wB (c := true) 18 rfl u1 ?_
     iterate 2 refine p_eventsN rfl ?_
     refine p_eventsN rfl ?_
     refine wB (c := ((checkV c) != 0) || (decide ((n : Int) < 0))) 21 rfl (by rw [u1]; rfl) ?_
     refine wN (tN ?_)
     exact fun aa ww nn dd hs H => hKK aa ww nn dd (sat_sub ⟨rfl, rfl, rfl, rfl, rfl, rfl, trivial⟩ hs) H
   · skip
     refine wB (c := false) 18 rfl u1 ?_
     iterate 2 refine p_eventsN rfl ?_
     refine p_eventsN rfl ?_
     refine wB (c := ((checkV c) != 0) || (decide ((n : Int) < 0))) 21 rfl (by rw [u1]; rfl) ?_
     refine wN (tN ?_)
     exact fun aa ww nn dd hs H => hKK aa ww nn dd (sat_sub ⟨rfl, rfl, rfl, rfl, rfl, rfl, trivial⟩ hs) H
 refine p_eventsN rfl ?_
 refine wCut 3 [(25, .bool ((((checkV c) != 0) || (decide ((n : Int) < 0))) || (decide (16384 < (n : Int))))), (0, .pointer (some ⟨m, 0, none⟩)), (1, .agg (cA c)), (2, .int .i64 n), (4, .pointer (some ⟨b4, 0, none⟩)), (6, .slice none 0 0)] ?_ ?_
 · intro KK hKK
   rcases Bool.eq_false_or_eq_true (((checkV c) != 0) || (decide ((n : Int) < 0))) with u2 | u2
   · skip
     refine wB (c := true) 22 rfl u2 ?_
     iterate 2 refine p_eventsN rfl ?_
     refine p_eventsN rfl ?_
     refine wB (c := (((checkV c) != 0) || (decide ((n : Int) < 0))) || (decide (16384 < (n : Int)))) 25 rfl (by rw [u2]; rfl) ?_
     refine wN (tN ?_)
     exact fun aa ww nn dd hs H => hKK aa ww nn dd (sat_sub ⟨rfl, rfl, rfl, rfl, rfl, rfl, trivial⟩ hs) H
   · skip
     refine wB (c := false) 22 rfl u2 ?_
     iterate 2 refine p_eventsN rfl ?_
     refine p_eventsN rfl ?_
     refine wB (c := (((checkV c) != 0) || (decide ((n : Int) < 0))) || (decide (16384 < (n : Int)))) 25 rfl (by rw [u2]; rfl) ?_
     refine wN (tN ?_)
     exact fun aa ww nn dd hs H => hKK aa ww nn dd (sat_sub ⟨rfl, rfl, rfl, rfl, rfl, rfl, trivial⟩ hs) H
 refine wN ?_
 refine tN (wKK hK3 ?_)
 refine wCond (E := (((checkV c) != 0) || (decide ((n : Int) < 0))) || (decide (16384 < (n : Int)))) rfl (fun z3 => ?_) (fun z3 => ?_)
 · skip
   refine wSeqK fun KK4 hK4 => ?_
   refine wReg ?_
   refine p_eventsN rfl ?_
   refine wN ?_
   refine tN (wKK hK4 ?_)
   refine wRet ?_
   refine tR ?_
   exact wR1 rfl rfl (fun ww H => ⟨none, 0, by unfold evAll; rw [z3]; rfl, by unfold evAll; rw [z3]; exact ⟨.inl ⟨rfl, rfl⟩, Wf.nil _⟩, fun q hq => (by unfold evAll at hq; rw [z3] at hq; cases hq), H.out.off⟩)
 · skip
   have z3l : (((checkV c) != 0) || (decide ((n : Int) < 0))) = false := Reg.ol z3
   have z3ll : ((checkV c) != 0) = false := Reg.ol z3l
   have z3llo : ((checkV c) == 0) = true := neq_f z3ll
   have z3lr : (decide ((n : Int) < 0)) = false := Reg.orr z3l
   have z3lrd : ¬ ((n : Int) < 0) := of_decide_eq_false z3lr
   have z3r : (decide (16384 < (n : Int))) = false := Reg.orr z3
   have z3rd : ¬ (16384 < (n : Int)) := of_decide_eq_false z3r
   intro aa ww nn dd hs H
   have hck : (checkV c != 0) = false := by cases h : (checkV c != 0) with | false => rfl | true => rw [h] at z3; cases z3
   have hr := cfg_rng hck
   have hnn : n ≤ 16384 := by simp at z3; omega
   refine wIn nn dd hs H ?_
   refine wSk ?_
   refine tN (wKK hK2 ?_)
   refine wSeqK fun KK5 hK5 => ?_
   refine wReg ?_
   refine wLr rfl tyapi_Config 0 rfl (cL c) rfl rfl ?_
   refine wC (l := [.agg (cA c)]) Tryz.func29 rfl (by kernel_rfl) (fun wc H => hellosC c wc hck) rfl rfl rfl rfl ?_
   intro wc H
   rintro er wd ⟨a3_1, c3_1, rfl, hA1, hA2, hof⟩
   have H2 := hp_gotA H hof hA1 hA2
   refine ⟨_, rfl, wkAt H2 ?_⟩
   clear H H2 hof
   refine p_eventsN rfl ?_
   refine wN ?_
   refine tN (wKK hK5 ?_)
   refine wSeqK fun KK6 hK6 => ?_
   refine wReg ?_
   refine p_eventsN rfl ?_
   refine wN ?_
   refine tN (wKK hK6 ?_)
   refine wSeqK fun KK7 hK7 => ?_
   refine wBlk ?_
   intro aa ww nn dd hs H
   have hhl := hellosV_len hr
   refine wIn nn dd hs H ?_
   refine wLoop (fun ab wv => ∃ k : Nat, ∃ a : Option Addr, ∃ cc : Nat, ∃ ys : List EvV, ∃ x : Nat, ∃ t : Int, (Hid (ys = evsV c s k ∧ (x, t) = (evs c s k).2)) ∧ (ys.length = 2 * c.lines.toNat + k) ∧ (k = 0 ∨ 2 * c.lines.toNat + (k : Int) ≤ n) ∧ (x < 18446744073709551616) ∧ (0 ≤ t ∧ t ≤ k) ∧ ((k : Int) ≤ n) ∧ ab.tmps.size = 47 ∧ ab.defers = [] ∧ Sat [(0, .pointer (some ⟨m, 0, none⟩)), (1, .agg (cA c)), (2, .int .i64 n), (4, .pointer (some ⟨b4, 0, none⟩)), (6, .slice none 0 0), (7, .slice a ys.length cc), (8, .int .i64 t), (25, .bool ((((checkV c) != 0) || (decide ((n : Int) < 0))) || (decide (16384 < (n : Int)))))] ab ∧ Hid (Hp [m] w wv [rA a cc 53 3 (ys.map evRow), rB b4 25 (cL c), rB m 61 [.int .u64 x]])) (fun ab _ => n - lenOf (ab.eval (.tmp 7))) (fun aa ww nn dd hs H => ⟨0, a3_1, c3_1, (hellosV c), s, 0, (Lib.hid ⟨by unfold evsV evs; rw [List.append_nil], rfl⟩), (by omega), (by omega), hsl, (by omega), (by omega), nn, dd, (sat_sub ⟨rfl, rfl, rfl, rfl, rfl, rfl, rfl, rfl, trivial⟩ hs), H⟩) ?_
   rintro a1 wv ⟨k, a, cc, ys, x, t, hy, hyl, hk, hxl, ht, hk2, nn, dd, hs, H⟩
   have mu1_7 := hs 7 _ rfl
   refine wIn nn dd hs H ?_
   clear nn dd hs H
   refine wSeqK fun KK8 hK8 => ?_
   refine wSeqK fun KK9 hK9 => ?_
   refine wReg ?_
   refine p_eventsN rfl ?_
   refine wE (.int .i64 ys.length) rfl rfl rfl (fun aa ww hs _ => by have e28 := hs 28 _ rfl; have g28 := gt_of e28; simp only [execOp]; go_simp <;> first | rfl | omega) ?_
   iterate 2 refine p_eventsN rfl ?_
   refine wB (c := decide (ys.length < n)) 31 rfl (by simp) ?_
   refine wN ?_
   refine tN (wKK hK9 ?_)
   refine wCond (E := decide (ys.length < n)) rfl (fun z4 => ?_) (fun z4 => ?_)
   · skip
     have z4d : ys.length < n := of_decide_eq_true z4
     refine wSk ?_
     refine tN (wKK hK8 ?_)
     refine wBlk ?_
     refine wSeqK fun KK10 hK10 => ?_
     refine wReg ?_
     refine p_eventsN rfl ?_
     refine wLr rfl tyapi_Config 1 rfl (cL c) rfl rfl ?_
     refine p_eventsN rfl ?_
     refine wC (l := [.pointer (some ⟨m, 0, none⟩), .agg (cA c), .int .i64 t]) Tryz.func30 rfl (by kernel_rfl) (fun wc H => eventDraw m x c t wc (H.out.blk 2 rfl) hxl hck (by omega)) rfl rfl rfl rfl ?_
     intro wc H
     rintro er wd ⟨rfl, hb, ho⟩
     have H2 := hp_turn H (i := 2) (cs' := [.int .u64 ((drawEvent x c t).2)]) rfl hb ho
     refine ⟨_, rfl, wkAt H2 ?_⟩
     clear H H2
     iterate 3 refine p_eventsN rfl ?_
     refine wAl rfl rfl tyhouse_Event fun b9 => ?_
     refine wSr rfl tyhouse_Event 0 rfl rfl rfl rfl [.int .i64 (((drawEvent x c t).1.1).kind), .int .i64 (((drawEvent x c t).1.1).n), .string (((drawEvent x c t).1.1).data)] (by first | rfl | (simp only [spl]; rfl)) ?_
     refine p_eventsN rfl ?_
     refine wN ?_
     refine tN (wKK hK10 ?_)
     refine wReg ?_
     refine p_eventsN rfl ?_
     refine wLr rfl tyhouse_Event 0 rfl [.int .i64 (((drawEvent x c t).1.1).kind), .int .i64 (((drawEvent x c t).1.1).n), .string (((drawEvent x c t).1.1).data)] rfl rfl ?_
     refine wBs (cs := [.int .i64 (((drawEvent x c t).1.1).kind), .int .i64 (((drawEvent x c t).1.1).n), .string (((drawEvent x c t).1.1).data)]) rfl rfl rfl rfl Tryz.underlying46 tyhouse_Event rfl (by decide) (by decide) (by kernel_rfl) fun b41 => ?_
     intro aa ww nn dd hs H
     refine hp_append (news := [evRow ((drawEvent x c t).1.1)]) elEv H rfl rfl 2 rfl (hs _ _ rfl) (by simp) (hs _ _ rfl) rfl (hp_single (e := 53) H (List.mem_of_getElem? (i := 0) rfl) rfl (by simp [evRow, Value.oneCell'])) (by simp; omega) (by decide) ?_
     intro wd a42 c42 H2
     rw [show ys.map evRow ++ [evRow ((drawEvent x c t).1.1)] = (ys ++ [((drawEvent x c t).1.1)]).map evRow by simp] at H2 ⊢
     rw [List.length_map]
     refine wGo (v := .slice a42 ((ys ++ [((drawEvent x c t).1.1)]).length) c42) nn dd hs rfl H2 ?_
     clear nn dd hs H H2
     iterate 3 refine p_eventsN rfl ?_
     refine wN ?_
     refine bN (tN ?_)
     intro aa ww nn dd hs H
     refine ⟨⟨k + 1, a42, c42, (ys ++ [((drawEvent x c t).1.1)]), (drawEvent x c t).2, (drawEvent x c t).1.2, (Lib.hid (by obtain ⟨e1, e2⟩ := hy.out; have e3 : x = (evs c s k).2.1 := congrArg Prod.fst e2; have e4 : t = (evs c s k).2.2 := congrArg Prod.snd e2; rw [e1, e3, e4]; exact ⟨evsV_next c s k, rfl⟩)), (by rw [List.length_append, hyl]; simp; omega), (.inr (by omega)), (drawEvent_lt hxl), (by have := draw_now x c t; omega), (by omega), nn, dd, (sat_sub ⟨rfl, rfl, rfl, rfl, rfl, rfl, rfl, rfl, trivial⟩ hs), (hp_sel [2, 3, 4] H (by decide) rfl)⟩, ?_⟩
     have m7 := hs 7 _ rfl
     simp only [mu1_7, m7, intOf, lenOf, List.length_append, List.length_cons, List.length_nil]
     omega
   · skip
     have z4d : ¬ (ys.length < n) := of_decide_eq_false z4
     intro aa ww nn dd hs H
     have hcc := rA_cap (H.out.at 0 rfl)
     rw [List.length_map] at hcc
     have hf : ∀ q ∈ footA a, w.heap.size ≤ q := fun q hq => (H.out.newf _ (List.mem_of_getElem? (i := 0) rfl) rfl q hq).resolve_left (fun h => List.pairwise_iff_getElem.1 H.out.sep 0 2 (by simp) (by simp) (by decide) rfl q hq (by rw [List.mem_singleton.1 h]; simp [rB]))
     have hkn : k = n - (hellosV c).length := by rw [hellosV_len hr]; omega
     have ee : evAll s c (n : Int) = ys.take n := by unfold evAll; rw [z3]; show (evsV c s ((n : Int).toNat - (hellosV c).length)).take (n : Int).toNat = _; rw [Int.toNat_natCast, ← hkn, hy.out.1]
     refine wIn nn dd hs H ?_
     refine wEx ?_
     refine tX (tX (bX (tN (wKK hK7 ?_))))
     refine wSeqK fun KK11 hK11 => ?_
     refine wReg ?_
     iterate 2 refine p_eventsN rfl ?_
     refine wE (.slice a n cc) rfl rfl rfl (fun aa ww hs _ => exec_cut_h elEv rfl (hs _ _ rfl) ((hs _ _ rfl).trans (by first | rfl | simp)) (by omega)) ?_
     refine p_eventsN rfl ?_
     refine wN ?_
     refine tN (wKK hK11 ?_)
     refine wRet ?_
     exact wR1 rfl rfl (fun ww H => ⟨a, cc, by rw [ee, List.length_take, Nat.min_eq_left (by omega)], by rw [ee]; exact rS_take (give_A (w := w) (H.out.at 0 rfl) hf).1 n (by omega), by rw [ee]; exact fun q hq => hf q (foot_sub hq), H.out.off⟩)
def tab_eventsNeg : Wk.Tab := []
theorem p_eventsNeg {ops : Array Oper} {rest : List Oper} {o : Oper} {w0 : World} {Q : Exit → Act → World → Prop} {S : List Nat} {R : List Res} {K K' : Wk.Env} {N : Nat} (h : Wk.stp tab_eventsNeg N ops K o = some K') (n : Wk.Wk N S w0 K' R (wpList Tryz.prog ops Q rest)) : Wk.Wk N S w0 K R (wpList Tryz.prog ops Q (o :: rest)) := Wk.wP (T := tab_eventsNeg) (by kernel_rfl) h n
set_option maxHeartbeats 16000000 in
set_option maxRecDepth 20000 in
theorem eventsNeg (m : Nat) (s : Nat) (c : Cfg) (n : Int) (w : World) (hm : Blk w m #[.int .u64 s] 61) (hsl : s < 18446744073709551616) (hneg : n < 0) : Calls Tryz.prog 15 #[.pointer (some ⟨m, 0, none⟩), .agg (cA c), .int .i64 n] w fun e w' => ∃ a' c', e = .returned (.slice a' (evAll s c n).length c') ∧ (rS a' c' 3 ((evAll s c n).map evRow)).holds w' ∧ (∀ q ∈ (rS a' c' 3 ((evAll s c n).map evRow)).foot, w.heap.size ≤ q) ∧ Off [m] w w' := by
 have H := Lib.hid (Hp.start [] w)
 have H := hp_one hm
 clear hm
 have hd1 : decide (n < 0) = true := decide_eq_true hneg
 have hT : (((checkV c != 0) || decide (n < 0)) || decide (16384 < n)) = true := by rw [hd1]; simp
 refine wStart (args := [.pointer (some ⟨m, 0, none⟩), .agg (cA c), .int .i64 n]) Tryz.func15 rfl rfl rfl H ?_
 clear H
 show Wk 47 _ _ [(0, .pointer (some ⟨m, 0, none⟩)), (1, .agg (cA c)), (2, .int .i64 n)] _ _
 refine wSeqK fun KK1 hK1 => ?_
 refine wReg ?_
 refine wBx rfl rfl rfl fun b4 => ?_
 refine p_eventsNeg rfl ?_
 refine wN ?_
 refine tN (wKK hK1 ?_)
 refine wSeqK fun KK2 hK2 => ?_
 refine wSeqK fun KK3 hK3 => ?_
 refine wReg ?_
 refine p_eventsNeg rfl ?_
 refine wE (.bool false) rfl rfl rfl (fun aa ww hs _ => by exact exec_pnil_eql rfl (hs _ _ rfl) rfl Tryz.underlying28) ?_
 refine p_eventsNeg rfl ?_
 refine wLr rfl tyapi_Config 0 rfl (cL c) rfl rfl ?_
 refine wQ (l := [.agg (cA c)]) Tryz.func22 rfl (by kernel_rfl) (.int .i64 (checkV c)) (fun wc H => check c wc) rfl rfl rfl rfl ?_
 iterate 3 refine p_eventsNeg rfl ?_
 refine wCut 3 [(21, .bool (((checkV c) != 0) || true)), (0, .pointer (some ⟨m, 0, none⟩)), (1, .agg (cA c)), (2, .int .i64 n), (4, .pointer (some ⟨b4, 0, none⟩)), (6, .slice none 0 0)] ?_ ?_
 · intro KK hKK
   rcases Bool.eq_false_or_eq_true ((checkV c) != 0) with u1 | u1
   · skip
     refine wB (c := true) 18 rfl u1 ?_
     iterate 2 refine p_eventsNeg rfl ?_
     refine p_eventsNeg rfl ?_
     refine wB (c := ((checkV c) != 0) || true) 21 rfl (by rw [u1]; rfl) ?_
     refine wN (tN ?_)
     exact fun aa ww nn dd hs H => hKK aa ww nn dd (sat_sub ⟨rfl, rfl, rfl, rfl, rfl, rfl, trivial⟩ hs) H
   · skip
     refine wB (c := false) 18 rfl u1 ?_
     iterate 2 refine p_eventsNeg rfl ?_
     refine wB 20 rfl hd1 ?_
     refine p_eventsNeg rfl ?_
     refine wB (c := ((checkV c) != 0) || true) 21 rfl (by rw [u1]; rfl) ?_
     refine wN (tN ?_)
     exact fun aa ww nn dd hs H => hKK aa ww nn dd (sat_sub ⟨rfl, rfl, rfl, rfl, rfl, rfl, trivial⟩ hs) H
 refine wB (c := true) 21 rfl (by simp) ?_
 iterate 4 refine p_eventsNeg rfl ?_
 refine wN ?_
 refine tN (wKK hK3 ?_)
 refine wCt rfl ?_
 refine wSeqK fun KK4 hK4 => ?_
 refine wReg ?_
 refine p_eventsNeg rfl ?_
 refine wN ?_
 refine tN (wKK hK4 ?_)
 refine wRet ?_
 refine tR ?_
 exact wR1 rfl rfl (fun ww H => ⟨none, 0, by unfold evAll; rw [hT]; rfl, by unfold evAll; rw [hT]; exact ⟨.inl ⟨rfl, rfl⟩, Wf.nil _⟩, fun q hq => (by unfold evAll at hq; rw [hT] at hq; cases hq), H.out.off⟩)
theorem eventsC (m : Nat) (s : Nat) (c : Cfg) (n : Int) (w : World) (hm : Blk w m #[.int .u64 s] 61) (hsl : s < 18446744073709551616) : Calls Tryz.prog 15 #[.pointer (some ⟨m, 0, none⟩), .agg (cA c), .int .i64 n] w fun e w' => ∃ a' c', e = .returned (.slice a' (evAll s c n).length c') ∧ (rS a' c' 3 ((evAll s c n).map evRow)).holds w' ∧ (∀ q ∈ (rS a' c' 3 ((evAll s c n).map evRow)).foot, w.heap.size ≤ q) ∧ Off [m] w w' := by
  rcases Int.lt_or_le n 0 with hn | hn
  · exact eventsNeg m s c n w hm hsl hn
  · obtain ⟨k, rfl⟩ := Int.eq_ofNat_of_zero_le hn
    exact eventsN m s c k w hm hsl
end Go.Proofs.YthflkhalipkdgaaGreat.Mn
