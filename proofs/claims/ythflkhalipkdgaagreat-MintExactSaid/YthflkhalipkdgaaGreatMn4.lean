/- Layer 35: events, one by one. -/
import Derived.Test.YthflkhalipkdgaaGreatProg
import Derived.Below
import Derived.WalkKit
import Derived.KernelRfl
import Derived.RowKit3
import Derived.Deep.LoopGhost
import Derived.Deep.QuietTactic
import Derived.BigQuiet
import Derived.WideLaws
import Derived.Deep.DeepCutAuto
import Derived.Deep.CutBlock
import Derived.Lib.Hide
import Derived.Laws.BitsLemmas
import Derived.Laws.Bits64
import Derived.Laws.BitsAllLaws
import Derived.IntWalk
import Derived.Outline
import Derived.WalkSpells
import Derived.Test.YthflkhalipkdgaaGreatGA
import Derived.Test.YthflkhalipkdgaaGreatMn3
namespace Go.Proofs.YthflkhalipkdgaaGreat.Mn
set_option maxRecDepth 20000
open Go.RowKit Go.Proofs.YthflkhalipkdgaaGreat.Mem Go.Proofs.YthflkhalipkdgaaGreat.Reg Go.Proofs.YthflkhalipkdgaaGreat.Wk Go.Proofs.YthflkhalipkdgaaGreat.Si Go.Proofs.YthflkhalipkdgaaGreat.Ca Go.Proofs.YthflkhalipkdgaaGreat.Ms Go.Proofs.YthflkhalipkdgaaGreat.Fr Go.Proofs.YthflkhalipkdgaaGreat.Bld
set_option linter.unusedVariables false
set_option linter.unusedSimpArgs false

def evRow (e : EvV) : List Value := [.int .i64 e.kind, .int .i64 e.n, .string e.data]
def drawEvent (s : Nat) (c : Cfg) (now : Int) : (EvV × Int) × Nat :=
  bif decide ((belN s 16 : Int) < 2) then ((askV (1 + belV (nextN s) c.lines) [(drawReq (nextN (nextN s)) c now).1], now), (drawReq (nextN (nextN s)) c now).2)
  else bif decide ((belN s 16 : Int) < 4) then ((⟨5, 0, ⟨#[]⟩⟩, now + 1), nextN s)
  else bif (belN s 16 : Int) == 4 then ((⟨7, 1 + belV (nextN s) c.cars, ⟨#[]⟩⟩, now), nextN (nextN s))
  else bif decide ((belN s 16 : Int) < 8) then ((⟨4, 1 + belV (nextN s) c.lines, ⟨#[]⟩⟩, now), nextN (nextN s))
  else ((⟨3, 1 + belV (nextN s) c.lines, ⟨#[]⟩⟩, now), nextN (nextN s))
theorem drawReq_lt {s : Nat} {c : Cfg} {now : Int} (h : s < 18446744073709551616) : (drawReq s c now).2 < 18446744073709551616 := by
  have h1 := nextN_lt h
  have h2 := nextN_lt h1
  have h3 := nextN_lt h2
  have h4 := nextN_lt h3
  unfold drawReq
  cases (((checkV c != 0) || decide (now < 0)) || decide (1073741824 < now)) with
  | true => exact h
  | false =>
    unfold drawOk
    cases (kindOf s == 4) with
    | true => exact drawCall_lt h3
    | false =>
      cases (kindOf s == 5) <;> cases (kindOf s == 6) <;> cases (kindOf s == 8) <;> cases (kindOf s == 10) <;> first | exact h4 | exact h3 | exact h2 | exact drawFilter_lt h2
theorem drawEvent_lt {s : Nat} {c : Cfg} {now : Int} (h : s < 18446744073709551616) : (drawEvent s c now).2 < 18446744073709551616 := by
  have h1 := nextN_lt h
  have h2 := nextN_lt h1
  unfold drawEvent
  cases decide ((belN s 16 : Int) < 2) with
  | true => exact drawReq_lt h2
  | false =>
    cases decide ((belN s 16 : Int) < 4) <;> cases ((belN s 16 : Int) == 4) <;> cases decide ((belN s 16 : Int) < 8) <;> first | exact h1 | exact h2
theorem drawReq_ok (s : Nat) (c : Cfg) (now : Int) : okReq (drawReq s c now).1 := by
  have z : ∀ q : ReqV, q.token = 0 → q.key = 0 → okReq q := fun q h1 h2 => by unfold okReq; rw [h1, h2]; decide
  unfold drawReq
  cases h : (((checkV c != 0) || decide (now < 0)) || decide (1073741824 < now)) with
  | true => exact z _ rfl rfl
  | false =>
    simp at h
    have hb := belN_lt (nextN (nextN s)) (n := 8) (by decide)
    have k : ∀ q : ReqV, q.token = 0 → q.key = keyV now (belN (nextN (nextN s)) 8) → okReq q := fun q h1 h2 => by
      unfold okReq
      rw [h1, h2]
      unfold keyV
      omega
    unfold drawOk
    cases (kindOf s == 4) with
    | true => exact k _ rfl rfl
    | false =>
      cases (kindOf s == 5) with
      | true => exact k _ rfl rfl
      | false => cases (kindOf s == 6) <;> cases (kindOf s == 8) <;> cases (kindOf s == 10) <;> exact z _ rfl rfl
theorem more_rng (s b : Int) : 0 ≤ moreV s b ∧ moreV s b ≤ 4294967295 := by
  have h1 : IntKind.u32.bits = 32 := rfl
  unfold moreV IntKind.wrap
  simp [h1, IntKind.signed]
  omega
theorem hello_ok (c : Cfg) (a b : Int) : okReq (helloV c a b) := ⟨more_rng _ _, by show (0 : Int) ≤ 0; decide, by show (0 : Int) ≤ 18446744073709551615; decide⟩
def roleOf : Nat → Int
  | 0 => 3
  | _ + 1 => 1
def hello2 (c : Cfg) (i : Nat) : List EvV := [⟨1, (i : Int) + 1, ⟨#[]⟩⟩, askV ((i : Int) + 1) [helloV c ((i : Int) + 1) (roleOf i)]]
def hellosN (c : Cfg) (n : Nat) : List EvV := (List.range n).flatMap (hello2 c)
def hellosV (c : Cfg) : List EvV := hellosN c c.lines.toNat
theorem hellos_next (c : Cfg) (i : Nat) : hellosN c i ++ hello2 c i = hellosN c (i + 1) := by
  unfold hellosN
  rw [List.range_succ, List.flatMap_append]
  simp
theorem hellos_len (c : Cfg) (i : Nat) : (hellosN c i).length = 2 * i := by
  induction i with
  | zero => rfl
  | succ i ih => rw [← hellos_next, List.length_append, ih]; simp [hello2]; omega
theorem hello2_len (c : Cfg) (i : Nat) : (hello2 c i).length = 2 := rfl
def evs (c : Cfg) (s : Nat) : Nat → List EvV × (Nat × Int)
  | 0 => ([], s, 0)
  | k + 1 => ((evs c s k).1 ++ [(drawEvent (evs c s k).2.1 c (evs c s k).2.2).1.1], (drawEvent (evs c s k).2.1 c (evs c s k).2.2).2, (drawEvent (evs c s k).2.1 c (evs c s k).2.2).1.2)
theorem evs_len (c : Cfg) (s k : Nat) : (evs c s k).1.length = k := by
  induction k with
  | zero => rfl
  | succ k ih => show ((evs c s k).1 ++ [_]).length = k + 1; rw [List.length_append, ih]; rfl
theorem draw_now (s : Nat) (c : Cfg) (now : Int) : (drawEvent s c now).1.2 = now ∨ (drawEvent s c now).1.2 = now + 1 := by
  unfold drawEvent
  cases decide ((belN s 16 : Int) < 2) <;> cases decide ((belN s 16 : Int) < 4) <;> cases ((belN s 16 : Int) == 4) <;> cases decide ((belN s 16 : Int) < 8) <;> first | exact .inl rfl | exact .inr rfl
def evsV (c : Cfg) (s k : Nat) : List EvV := hellosV c ++ (evs c s k).1
theorem evsV_next (c : Cfg) (s k : Nat) : evsV c s k ++ [(drawEvent (evs c s k).2.1 c (evs c s k).2.2).1.1] = evsV c s (k + 1) := by
  unfold evsV
  rw [List.append_assoc]
  rfl
theorem evsV_len (c : Cfg) (s k : Nat) : (evsV c s k).length = (hellosV c).length + k := by
  unfold evsV
  rw [List.length_append, evs_len]
def eventsV (s : Nat) (c : Cfg) (n : Nat) : List EvV := (evsV c s (n - (hellosV c).length)).take n
theorem hp_pair {S : List Nat} {w0 w : World} {R : List Res} (H : Hid (Hp S w0 w R)) {b e k : Nat} {r1 r2 : List Value} (hm : rB b e (r1 ++ r2) ∈ R) (hk1 : r1.length = k) (hk2 : r2.length = k) (h1 : ∀ u ∈ r1, u.oneCell' = true) (h2 : ∀ u ∈ r2, u.oneCell' = true) : (rS (some ⟨b, 0, none⟩) 2 k [r1, r2]).holds w := by
  have hb : Blk w b (r1 ++ r2).toArray e := H.out.holds _ hm
  refine ⟨.inr ⟨⟨b, 0, none⟩, 2, rfl, fun i hi j u hu => ?_⟩, fun r hr => ?_⟩
  · have hi' : i = 0 ∨ i = 1 := by simp at hi; omega
    rw [Deep.add_add]
    have e2 : (⟨b, 0, none⟩ : Addr).add (i * k + j) = ⟨b, i * k + j, none⟩ := by
      unfold Addr.add
      split
      · rename_i h0; rw [h0]
      · simp
    rw [e2]
    refine hb.cell _ _ ?_
    rcases hi' with rfl | rfl
    · have hu' : r1[j]? = some u := hu
      have hj := (List.getElem?_eq_some_iff.1 hu').1
      simp only [Nat.zero_mul, Nat.zero_add, List.getElem?_toArray]
      rw [List.getElem?_append_left hj]
      exact hu'
    · have hu' : r2[j]? = some u := hu
      simp only [Nat.one_mul, List.getElem?_toArray]
      rw [List.getElem?_append_right (by omega), show k + j - r1.length = j by omega]
      exact hu'
  · rcases List.mem_cons.1 hr with rfl | hr
    · exact ⟨hk1, h1⟩
    · rw [List.mem_singleton.1 hr]; exact ⟨hk2, h2⟩
theorem elEv : ElI Tryz.prog 46 53 3 32 := ElI.of (by kernel_rfl) (by kernel_rfl) (by decide)
theorem give_A {a : Option Addr} {c e k : Nat} {rows : List (List Value)} {w w' : World} (h : (rA a c e k rows).holds w') (hf : ∀ q ∈ footA a, w.heap.size ≤ q) : (rS a c k rows).holds w' ∧ ∀ q ∈ (rS a c k rows).foot, w.heap.size ≤ q :=
  ⟨⟨rows_owns h.1 rfl h.2.len, h.2⟩, fun q hq => hf q (by
    cases rows with
    | nil => cases hq
    | cons r l => exact hq)⟩
def tab_eventDraw : Wk.Tab := [(25, 1, 1), (25, 4, 4)]
theorem p_eventDraw {ops : Array Oper} {rest : List Oper} {o : Oper} {w0 : World} {Q : Exit → Act → World → Prop} {S : List Nat} {R : List Res} {K K' : Wk.Env} {N : Nat} (h : Wk.stp tab_eventDraw N ops K o = some K') (n : Wk.Wk N S w0 K' R (wpList Tryz.prog ops Q rest)) : Wk.Wk N S w0 K R (wpList Tryz.prog ops Q (o :: rest)) := Wk.wP (T := tab_eventDraw) (by kernel_rfl) h n
set_option maxHeartbeats 16000000 in
set_option maxRecDepth 20000 in
theorem eventDraw (m : Nat) (s : Nat) (c : Cfg) (now : Int) (w : World) (hm : Blk w m #[.int .u64 s] 61) (hsl : s < 18446744073709551616) (hck : (checkV c != 0) = false) (hn : 0 ≤ now ∧ now ≤ 1000000) : Calls Tryz.prog 30 #[.pointer (some ⟨m, 0, none⟩), .agg (cA c), .int .i64 now] w fun e w' => e = .returned (.tuple #[.agg #[.int .i64 (((drawEvent s c now).1.1).kind), .int .i64 (((drawEvent s c now).1.1).n), .string (((drawEvent s c now).1.1).data)], .int .i64 (drawEvent s c now).1.2]) ∧ Blk w' m #[.int .u64 ((drawEvent s c now).2)] 61 ∧ Off [m] w w' := by
 have H := Lib.hid (Hp.start [] w)
 have H := hp_one hm
 clear hm
 have hr := cfg_rng hck
 refine wStart (args := [.pointer (some ⟨m, 0, none⟩), .agg (cA c), .int .i64 now]) Tryz.func30 rfl rfl rfl H ?_
 clear H
 show Wk 57 _ _ [(0, .pointer (some ⟨m, 0, none⟩)), (1, .agg (cA c)), (2, .int .i64 now)] _ _
 refine wSeqK fun KK1 hK1 => ?_
 refine wReg ?_
 refine wBx rfl rfl rfl fun b4 => ?_
 refine wAl rfl rfl tyhouse_Event fun b6 => ?_
 refine p_eventDraw rfl ?_
 refine wN ?_
 refine tN (wKK hK1 ?_)
 refine wSeqK fun KK2 hK2 => ?_
 refine wReg ?_
 refine p_eventDraw rfl ?_
 refine wC (l := [.pointer (some ⟨m, 0, none⟩), .int .i64 16]) Tryz.func10 rfl (by kernel_rfl) (fun wc H => belowN m s 16 wc (H.out.blk 2 rfl) hsl (by decide)) rfl rfl rfl rfl ?_
 intro wc H
 rintro er wd ⟨rfl, hb, ho⟩
 have H2 := hp_turn H (i := 2) (cs' := [.int .u64 (nextN s)]) rfl hb ho
 refine ⟨_, rfl, wkAt H2 ?_⟩
 clear H H2
 refine p_eventDraw rfl ?_
 refine wN ?_
 refine tN (wKK hK2 ?_)
 refine wSeqK fun KK3 hK3 => ?_
 refine wBlk ?_
 refine wSeqK fun KK4 hK4 => ?_
 refine wReg ?_
 iterate 3 refine p_eventDraw rfl ?_
 refine wN ?_
 refine tN (wKK hK4 ?_)
 refine wCond (E := decide (((belN s 16) : Int) < 2)) rfl (fun z1 => ?_) (fun z1 => ?_)
 · skip
   have z1d : ((belN s 16) : Int) < 2 := of_decide_eq_true z1
   refine wSeqK fun KK5 hK5 => ?_
   refine wReg ?_
   iterate 2 refine p_eventDraw rfl ?_
   refine wLd rfl tyint 1 rfl rfl ?_
   refine wC (l := [.pointer (some ⟨m, 0, none⟩), .int .i64 1, .int .i64 c.lines]) Tryz.func26 rfl (by kernel_rfl) (fun wc H => fromOk m (nextN s) 1 c.lines wc (H.out.blk 2 rfl) (nextN_lt hsl) (by decide) (by omega)) rfl rfl rfl rfl ?_
   intro wc H
   rintro er wd ⟨rfl, hb, ho⟩
   have H2 := hp_turn H (i := 2) (cs' := [.int .u64 (nextN (nextN s))]) rfl hb ho
   refine ⟨_, rfl, wkAt H2 ?_⟩
   clear H H2
   refine p_eventDraw rfl ?_
   refine wN ?_
   refine tN (wKK hK5 ?_)
   refine wSeqK fun KK6 hK6 => ?_
   refine wReg ?_
   iterate 2 refine p_eventDraw rfl ?_
   refine wLr rfl tyapi_Config 1 rfl (cL c) rfl rfl ?_
   refine p_eventDraw rfl ?_
   refine wC (l := [.pointer (some ⟨m, 0, none⟩), .agg (cA c), .int .i64 now]) Tryz.func13 rfl (by kernel_rfl) (fun wc H => reqDraw m (nextN (nextN s)) c now wc (H.out.blk 2 rfl) (nextN_lt (nextN_lt hsl))) rfl rfl rfl rfl ?_
   intro wc H
   rintro er wd ⟨rfl, hb, ho⟩
   have H2 := hp_turn H (i := 2) (cs' := [.int .u64 ((drawReq (nextN (nextN s)) c now).2)]) rfl hb ho
   refine ⟨_, rfl, wkAt H2 ?_⟩
   clear H H2
   refine wBs (cs := [.int .i64 (((drawReq (nextN (nextN s)) c now).1).kind), .int .i64 (((drawReq (nextN (nextN s)) c now).1).seq), .int .i64 (((drawReq (nextN (nextN s)) c now).1).who), .int .i64 (((drawReq (nextN (nextN s)) c now).1).role), .int .u32 (((drawReq (nextN (nextN s)) c now).1).token), .int .u64 (((drawReq (nextN (nextN s)) c now).1).key), .int .i64 ((((drawReq (nextN (nextN s)) c now).1).call).id), .int .i64 ((((drawReq (nextN (nextN s)) c now).1).call).kind), .int .i64 ((((drawReq (nextN (nextN s)) c now).1).call).src), .int .i64 ((((drawReq (nextN (nextN s)) c now).1).call).dst), .int .i64 ((((drawReq (nextN (nextN s)) c now).1).call).car), .int .i64 ((((drawReq (nextN (nextN s)) c now).1).call).state), .int .i64 ((((drawReq (nextN (nextN s)) c now).1).call).owner), .int .i64 ((((drawReq (nextN (nextN s)) c now).1).call).born), .int .i64 (((drawReq (nextN (nextN s)) c now).1).id), .int .i64 (((drawReq (nextN (nextN s)) c now).1).car), .int .i64 (((drawReq (nextN (nextN s)) c now).1).mode), .int .i64 ((((drawReq (nextN (nextN s)) c now).1).filter).kind), .int .i64 ((((drawReq (nextN (nextN s)) c now).1).filter).n)]) rfl rfl rfl rfl Tryz.underlying81 tymsg_Request rfl (by decide) (by decide) (by kernel_rfl) fun b24 => ?_
   refine wQ (l := [.int .i64 (1 + belV (nextN s) c.lines), .slice (some ⟨b24, 0, none⟩) 1 1]) Tryz.func20 rfl (by kernel_rfl) (.agg #[.int .i64 ((askV (1 + belV (nextN s) c.lines) [((drawReq (nextN (nextN s)) c now).1)]).kind), .int .i64 ((askV (1 + belV (nextN s) c.lines) [((drawReq (nextN (nextN s)) c now).1)]).n), .string ((askV (1 + belV (nextN s) c.lines) [((drawReq (nextN (nextN s)) c now).1)]).data)]) (fun wc H => askC (1 + belV (nextN s) c.lines) (some ⟨b24, 0, none⟩) 1 [((drawReq (nextN (nextN s)) c now).1)] wc (hp_single (cs := reqRow ((drawReq (nextN (nextN s)) c now).1)) (e := 43) H (List.mem_of_getElem? (i := 0) rfl) rfl (by simp [reqRow, Value.oneCell'])) (Lib.hid (fun q hq => by rw [List.mem_singleton.1 hq]; exact (drawReq_ok _ _ _))) (by simp)) rfl rfl rfl rfl ?_
   refine p_eventDraw rfl ?_
   refine wSr rfl tyhouse_Event 1 rfl rfl rfl rfl [.int .i64 ((askV (1 + belV (nextN s) c.lines) [((drawReq (nextN (nextN s)) c now).1)]).kind), .int .i64 ((askV (1 + belV (nextN s) c.lines) [((drawReq (nextN (nextN s)) c now).1)]).n), .string ((askV (1 + belV (nextN s) c.lines) [((drawReq (nextN (nextN s)) c now).1)]).data)] (by first | rfl | (simp only [spl]; rfl)) ?_
   refine p_eventDraw rfl ?_
   refine wN ?_
   refine tN (wKK hK6 ?_)
   refine wRet ?_
   refine bR (tR ?_)
   exact wRct tyhouse_Event rfl rfl rfl 1 rfl rfl (fun ww H => (by simp only [drawEvent, z1, cond_true, cond_false, Bool.not_true, Bool.not_false, Bool.true_and, Bool.and_true, Bool.false_and, Bool.and_false, Bool.true_or, Bool.or_true, Bool.false_or, Bool.or_false]; exact ⟨by first | rfl | trivial, H.out.blk 3 rfl, H.out.off⟩))
 · skip
   have z1d : ¬ (((belN s 16) : Int) < 2) := of_decide_eq_false z1
   refine wSeqK fun KK7 hK7 => ?_
   refine wReg ?_
   iterate 3 refine p_eventDraw rfl ?_
   refine wN ?_
   refine tN (wKK hK7 ?_)
   refine wCond (E := decide (((belN s 16) : Int) < 4)) rfl (fun z2 => ?_) (fun z2 => ?_)
   · skip
     have z2d : ((belN s 16) : Int) < 4 := of_decide_eq_true z2
     refine wSeqK fun KK8 hK8 => ?_
     refine wReg ?_
     refine wE (.agg #[.int .i64 5, .int .i64 0, .string (⟨#[]⟩ : ByteArray)]) rfl rfl rfl (fun aa ww hs _ => by simp only [execOp]; go_simp <;> first | rfl | omega) ?_
     iterate 2 refine p_eventDraw rfl ?_
     refine wI 32 rfl (IntWalk.i64_in _ (by omega)) ?_
     refine wSr rfl tyhouse_Event 0 rfl rfl rfl rfl [.int .i64 5, .int .i64 0, .string (⟨#[]⟩ : ByteArray)] (by first | rfl | (simp only [spl]; rfl)) ?_
     refine p_eventDraw rfl ?_
     refine wN ?_
     refine tN (wKK hK8 ?_)
     refine wRet ?_
     refine bR (tR ?_)
     exact wRct tyhouse_Event rfl rfl rfl 0 rfl rfl (fun ww H => (by simp only [drawEvent, z1, z2, cond_true, cond_false, Bool.not_true, Bool.not_false, Bool.true_and, Bool.and_true, Bool.false_and, Bool.and_false, Bool.true_or, Bool.or_true, Bool.false_or, Bool.or_false]; exact ⟨by first | rfl | trivial, H.out.blk 2 rfl, H.out.off⟩))
   · skip
     have z2d : ¬ (((belN s 16) : Int) < 4) := of_decide_eq_false z2
     refine wSeqK fun KK9 hK9 => ?_
     refine wReg ?_
     iterate 3 refine p_eventDraw rfl ?_
     refine wN ?_
     refine tN (wKK hK9 ?_)
     refine wCond (E := ((belN s 16) : Int) == 4) rfl (fun z3 => ?_) (fun z3 => ?_)
     · skip
       have z3o : (((belN s 16) : Int) != 4) = false := eqq_t z3
       refine wSeqK fun KK10 hK10 => ?_
       refine wReg ?_
       iterate 2 refine p_eventDraw rfl ?_
       refine wLd rfl tyint 1 rfl rfl ?_
       refine wC (l := [.pointer (some ⟨m, 0, none⟩), .int .i64 1, .int .i64 c.cars]) Tryz.func26 rfl (by kernel_rfl) (fun wc H => fromOk m (nextN s) 1 c.cars wc (H.out.blk 2 rfl) (nextN_lt hsl) (by decide) (by omega)) rfl rfl rfl rfl ?_
       intro wc H
       rintro er wd ⟨rfl, hb, ho⟩
       have H2 := hp_turn H (i := 2) (cs' := [.int .u64 (nextN (nextN s))]) rfl hb ho
       refine ⟨_, rfl, wkAt H2 ?_⟩
       clear H H2
       refine wE (.agg #[.int .i64 7, .int .i64 (1 + belV (nextN s) c.cars), .string (⟨#[]⟩ : ByteArray)]) rfl rfl rfl (fun aa ww hs _ => by have e39 := hs 39 _ rfl; have g39 := gt_of e39; simp only [execOp]; go_simp <;> first | rfl | omega) ?_
       refine p_eventDraw rfl ?_
       refine wSr rfl tyhouse_Event 0 rfl rfl rfl rfl [.int .i64 7, .int .i64 (1 + belV (nextN s) c.cars), .string (⟨#[]⟩ : ByteArray)] (by first | rfl | (simp only [spl]; rfl)) ?_
       refine p_eventDraw rfl ?_
       refine wN ?_
       refine tN (wKK hK10 ?_)
       refine wRet ?_
       refine bR (tR ?_)
       exact wRct tyhouse_Event rfl rfl rfl 0 rfl rfl (fun ww H => (by simp only [drawEvent, z1, z2, z3, z3o, cond_true, cond_false, Bool.not_true, Bool.not_false, Bool.true_and, Bool.and_true, Bool.false_and, Bool.and_false, Bool.true_or, Bool.or_true, Bool.false_or, Bool.or_false]; exact ⟨by first | rfl | trivial, H.out.blk 2 rfl, H.out.off⟩))
     · skip
       have z3o : (((belN s 16) : Int) != 4) = true := eqq_f z3
       refine wSeqK fun KK11 hK11 => ?_
       refine wReg ?_
       iterate 3 refine p_eventDraw rfl ?_
       refine wN ?_
       refine tN (wKK hK11 ?_)
       refine wCond (E := decide (((belN s 16) : Int) < 8)) rfl (fun z4 => ?_) (fun z4 => ?_)
       · skip
         have z4d : ((belN s 16) : Int) < 8 := of_decide_eq_true z4
         refine wSeqK fun KK12 hK12 => ?_
         refine wReg ?_
         iterate 2 refine p_eventDraw rfl ?_
         refine wLd rfl tyint 1 rfl rfl ?_
         refine wC (l := [.pointer (some ⟨m, 0, none⟩), .int .i64 1, .int .i64 c.lines]) Tryz.func26 rfl (by kernel_rfl) (fun wc H => fromOk m (nextN s) 1 c.lines wc (H.out.blk 2 rfl) (nextN_lt hsl) (by decide) (by omega)) rfl rfl rfl rfl ?_
         intro wc H
         rintro er wd ⟨rfl, hb, ho⟩
         have H2 := hp_turn H (i := 2) (cs' := [.int .u64 (nextN (nextN s))]) rfl hb ho
         refine ⟨_, rfl, wkAt H2 ?_⟩
         clear H H2
         refine wE (.agg #[.int .i64 4, .int .i64 (1 + belV (nextN s) c.lines), .string (⟨#[]⟩ : ByteArray)]) rfl rfl rfl (fun aa ww hs _ => by have e48 := hs 48 _ rfl; have g48 := gt_of e48; simp only [execOp]; go_simp <;> first | rfl | omega) ?_
         refine p_eventDraw rfl ?_
         refine wSr rfl tyhouse_Event 0 rfl rfl rfl rfl [.int .i64 4, .int .i64 (1 + belV (nextN s) c.lines), .string (⟨#[]⟩ : ByteArray)] (by first | rfl | (simp only [spl]; rfl)) ?_
         refine p_eventDraw rfl ?_
         refine wN ?_
         refine tN (wKK hK12 ?_)
         refine wRet ?_
         refine bR (tR ?_)
         exact wRct tyhouse_Event rfl rfl rfl 0 rfl rfl (fun ww H => (by simp only [drawEvent, z1, z2, z3, z3o, z4, cond_true, cond_false, Bool.not_true, Bool.not_false, Bool.true_and, Bool.and_true, Bool.false_and, Bool.and_false, Bool.true_or, Bool.or_true, Bool.false_or, Bool.or_false]; exact ⟨by first | rfl | trivial, H.out.blk 2 rfl, H.out.off⟩))
       · skip
         have z4d : ¬ (((belN s 16) : Int) < 8) := of_decide_eq_false z4
         refine wSk ?_
         refine bN (tN (wKK hK3 ?_))
         refine wSeqK fun KK13 hK13 => ?_
         refine wReg ?_
         iterate 2 refine p_eventDraw rfl ?_
         refine wLd rfl tyint 1 rfl rfl ?_
         refine wC (l := [.pointer (some ⟨m, 0, none⟩), .int .i64 1, .int .i64 c.lines]) Tryz.func26 rfl (by kernel_rfl) (fun wc H => fromOk m (nextN s) 1 c.lines wc (H.out.blk 2 rfl) (nextN_lt hsl) (by decide) (by omega)) rfl rfl rfl rfl ?_
         intro wc H
         rintro er wd ⟨rfl, hb, ho⟩
         have H2 := hp_turn H (i := 2) (cs' := [.int .u64 (nextN (nextN s))]) rfl hb ho
         refine ⟨_, rfl, wkAt H2 ?_⟩
         clear H H2
         refine wE (.agg #[.int .i64 3, .int .i64 (1 + belV (nextN s) c.lines), .string (⟨#[]⟩ : ByteArray)]) rfl rfl rfl (fun aa ww hs _ => by have e54 := hs 54 _ rfl; have g54 := gt_of e54; simp only [execOp]; go_simp <;> first | rfl | omega) ?_
         refine p_eventDraw rfl ?_
         refine wSr rfl tyhouse_Event 0 rfl rfl rfl rfl [.int .i64 3, .int .i64 (1 + belV (nextN s) c.lines), .string (⟨#[]⟩ : ByteArray)] (by first | rfl | (simp only [spl]; rfl)) ?_
         refine p_eventDraw rfl ?_
         refine wN ?_
         refine tN (wKK hK13 ?_)
         refine wRet ?_
         exact wRct tyhouse_Event rfl rfl rfl 0 rfl rfl (fun ww H => (by simp only [drawEvent, z1, z2, z3, z3o, z4, cond_true, cond_false, Bool.not_true, Bool.not_false, Bool.true_and, Bool.and_true, Bool.false_and, Bool.and_false, Bool.true_or, Bool.or_true, Bool.false_or, Bool.or_false]; exact ⟨by first | rfl | trivial, H.out.blk 2 rfl, H.out.off⟩))
def tab_hellosC : Wk.Tab := [(25, 4, 4)]
theorem p_hellosC {ops : Array Oper} {rest : List Oper} {o : Oper} {w0 : World} {Q : Exit → Act → World → Prop} {S : List Nat} {R : List Res} {K K' : Wk.Env} {N : Nat} (h : Wk.stp tab_hellosC N ops K o = some K') (n : Wk.Wk N S w0 K' R (wpList Tryz.prog ops Q rest)) : Wk.Wk N S w0 K R (wpList Tryz.prog ops Q (o :: rest)) := Wk.wP (T := tab_hellosC) (by kernel_rfl) h n
set_option maxHeartbeats 16000000 in
set_option maxRecDepth 20000 in
theorem hellosC (c : Cfg) (w : World) (hck : (checkV c != 0) = false) : Calls Tryz.prog 29 #[.agg (cA c)] w fun e w' => ∃ a' c', e = .returned (.slice a' (hellosV c).length c') ∧ (rA a' c' 53 3 ((hellosV c).map evRow)).holds w' ∧ (∀ q ∈ footA a', w.heap.size ≤ q) ∧ Off [] w w' := by
 have H := Lib.hid (Hp.start [] w)
 have hr := cfg_rng hck
 refine wStart (args := [.agg (cA c)]) Tryz.func29 rfl rfl rfl H ?_
 clear H
 show Wk 28 _ _ [(0, .agg (cA c))] _ _
 refine wSeqK fun KK1 hK1 => ?_
 refine wReg ?_
 refine wBx rfl rfl rfl fun b1 => ?_
 refine p_hellosC rfl ?_
 refine wN ?_
 refine tN (wKK hK1 ?_)
 refine wSeqK fun KK2 hK2 => ?_
 refine wReg ?_
 refine p_hellosC rfl ?_
 refine wN ?_
 refine tN (wKK hK2 ?_)
 refine wSeqK fun KK3 hK3 => ?_
 refine wReg ?_
 refine p_hellosC rfl ?_
 refine wN ?_
 refine tN (wKK hK3 ?_)
 refine wSeqK fun KK4 hK4 => ?_
 refine wSeqK fun KK5 hK5 => ?_
 refine wReg ?_
 refine p_hellosC rfl ?_
 refine wLd rfl tyint 0 rfl rfl ?_
 refine p_hellosC rfl ?_
 refine wN ?_
 refine tN (wKK hK5 ?_)
 refine wBlk ?_
 intro aa ww nn dd hs H
 have H := hp_nil H 53 3
 replace H : Hid (Hp [] w ww [rA none 0 53 3 (([] : List EvV).map evRow), rB b1 25 (cL c)]) := H
 refine wIn nn dd hs H ?_
 refine wLoop (fun ab wv => ∃ i : Nat, ∃ a : Option Addr, ∃ cc : Nat, ∃ ys : List EvV, ((i : Int) ≤ c.lines) ∧ (Hid (ys = hellosN c i)) ∧ (ys.length = 2 * i) ∧ ab.tmps.size = 28 ∧ ab.defers = [] ∧ Sat [(0, .agg (cA c)), (1, .pointer (some ⟨b1, 0, none⟩)), (2, .slice none 0 0), (3, .slice a ys.length cc), (4, .int .i64 (roleOf i)), (7, .int .i64 c.lines), (8, .int .i64 i)] ab ∧ Hid (Hp [] w wv [rA a cc 53 3 (ys.map evRow), rB b1 25 (cL c)])) (fun ab _ => c.lines.toNat - (intOf (ab.eval (.tmp 8))).toNat) (fun aa ww nn dd hs H => ⟨0, none, 0, [], (by omega), (Lib.hid rfl), rfl, nn, dd, (sat_sub ⟨rfl, rfl, rfl, rfl, rfl, rfl, rfl, trivial⟩ hs), H⟩) ?_
 rintro a1 wv ⟨i, a, cc, ys, hi, hy, hyl, nn, dd, hs, H⟩
 have mu1_8 := hs 8 _ rfl
 refine wIn nn dd hs H ?_
 clear nn dd hs H
 refine wSeqK fun KK6 hK6 => ?_
 refine wReg ?_
 refine p_hellosC rfl ?_
 refine wN ?_
 refine tN (wKK hK6 ?_)
 refine wSeqK fun KK7 hK7 => ?_
 refine wCond (E := decide ((i : Int) < c.lines)) rfl (fun z1 => ?_) (fun z1 => ?_)
 · skip
   have z1d : (i : Int) < c.lines := of_decide_eq_true z1
   refine wSk ?_
   refine tN (wKK hK7 ?_)
   refine wSeqK fun KK8 hK8 => ?_
   refine wBlk ?_
   refine wSeqK fun KK9 hK9 => ?_
   refine wReg ?_
   iterate 2 refine p_hellosC rfl ?_
   refine wN ?_
   refine tN (wKK hK9 ?_)
   refine wSeqK fun KK10 hK10 => ?_
   intro aa ww nn dd hs H
   have h2 := hello2_len c i
   refine wIn nn dd hs H ?_
   refine wReg ?_
   iterate 3 refine p_hellosC rfl ?_
   refine wI 13 rfl (IntWalk.i64_in _ (by omega)) ?_
   refine wE (.agg #[.int .i64 1, .int .i64 (i + 1), .string (⟨#[]⟩ : ByteArray)]) rfl rfl rfl (fun aa ww hs _ => by have e13 := hs 13 _ rfl; have g13 := gt_of e13; simp only [execOp]; go_simp <;> first | rfl | omega) ?_
   iterate 2 refine p_hellosC rfl ?_
   refine wI 16 rfl (IntWalk.i64_in _ (by omega)) ?_
   refine wLr rfl tyapi_Config 1 rfl (cL c) rfl rfl ?_
   iterate 2 refine p_hellosC rfl ?_
   refine wI 19 rfl (IntWalk.i64_in _ (by omega)) ?_
   refine p_hellosC rfl ?_
   refine wQ (l := [.agg (cA c), .int .i64 (i + 1), .int .i64 (roleOf i)]) Tryz.func19 rfl (by kernel_rfl) (.agg #[.int .i64 ((helloV c (i + 1) (roleOf i)).kind), .int .i64 ((helloV c (i + 1) (roleOf i)).seq), .int .i64 ((helloV c (i + 1) (roleOf i)).who), .int .i64 ((helloV c (i + 1) (roleOf i)).role), .int .u32 ((helloV c (i + 1) (roleOf i)).token), .int .u64 ((helloV c (i + 1) (roleOf i)).key), .int .i64 (((helloV c (i + 1) (roleOf i)).call).id), .int .i64 (((helloV c (i + 1) (roleOf i)).call).kind), .int .i64 (((helloV c (i + 1) (roleOf i)).call).src), .int .i64 (((helloV c (i + 1) (roleOf i)).call).dst), .int .i64 (((helloV c (i + 1) (roleOf i)).call).car), .int .i64 (((helloV c (i + 1) (roleOf i)).call).state), .int .i64 (((helloV c (i + 1) (roleOf i)).call).owner), .int .i64 (((helloV c (i + 1) (roleOf i)).call).born), .int .i64 ((helloV c (i + 1) (roleOf i)).id), .int .i64 ((helloV c (i + 1) (roleOf i)).car), .int .i64 ((helloV c (i + 1) (roleOf i)).mode), .int .i64 (((helloV c (i + 1) (roleOf i)).filter).kind), .int .i64 (((helloV c (i + 1) (roleOf i)).filter).n)]) (fun wc H => helloC c (i + 1) (roleOf i) wc) rfl rfl rfl rfl ?_
   refine wBs (cs := [.int .i64 ((helloV c (i + 1) (roleOf i)).kind), .int .i64 ((helloV c (i + 1) (roleOf i)).seq), .int .i64 ((helloV c (i + 1) (roleOf i)).who), .int .i64 ((helloV c (i + 1) (roleOf i)).role), .int .u32 ((helloV c (i + 1) (roleOf i)).token), .int .u64 ((helloV c (i + 1) (roleOf i)).key), .int .i64 (((helloV c (i + 1) (roleOf i)).call).id), .int .i64 (((helloV c (i + 1) (roleOf i)).call).kind), .int .i64 (((helloV c (i + 1) (roleOf i)).call).src), .int .i64 (((helloV c (i + 1) (roleOf i)).call).dst), .int .i64 (((helloV c (i + 1) (roleOf i)).call).car), .int .i64 (((helloV c (i + 1) (roleOf i)).call).state), .int .i64 (((helloV c (i + 1) (roleOf i)).call).owner), .int .i64 (((helloV c (i + 1) (roleOf i)).call).born), .int .i64 ((helloV c (i + 1) (roleOf i)).id), .int .i64 ((helloV c (i + 1) (roleOf i)).car), .int .i64 ((helloV c (i + 1) (roleOf i)).mode), .int .i64 (((helloV c (i + 1) (roleOf i)).filter).kind), .int .i64 (((helloV c (i + 1) (roleOf i)).filter).n)]) rfl rfl rfl rfl Tryz.underlying81 tymsg_Request rfl (by decide) (by decide) (by kernel_rfl) fun b22 => ?_
   refine wQ (l := [.int .i64 (i + 1), .slice (some ⟨b22, 0, none⟩) 1 1]) Tryz.func20 rfl (by kernel_rfl) (.agg #[.int .i64 ((askV (i + 1) [(helloV c (i + 1) (roleOf i))]).kind), .int .i64 ((askV (i + 1) [(helloV c (i + 1) (roleOf i))]).n), .string ((askV (i + 1) [(helloV c (i + 1) (roleOf i))]).data)]) (fun wc H => askC (i + 1) (some ⟨b22, 0, none⟩) 1 [(helloV c (i + 1) (roleOf i))] wc (hp_single (cs := reqRow (helloV c (i + 1) (roleOf i))) (e := 43) H (List.mem_of_getElem? (i := 0) rfl) rfl (by simp [reqRow, Value.oneCell'])) (Lib.hid (fun q hq => by rw [List.mem_singleton.1 hq]; exact (hello_ok _ _ _))) (by simp)) rfl rfl rfl rfl ?_
   refine wBs (cs := [.int .i64 1, .int .i64 (i + 1), .string (⟨#[]⟩ : ByteArray), .int .i64 ((askV (i + 1) [(helloV c (i + 1) (roleOf i))]).kind), .int .i64 ((askV (i + 1) [(helloV c (i + 1) (roleOf i))]).n), .string ((askV (i + 1) [(helloV c (i + 1) (roleOf i))]).data)]) rfl rfl rfl rfl Tryz.underlying46 tyhouse_Event rfl (by decide) (by decide) (by kernel_rfl) fun b24 => ?_
   intro aa ww nn dd hs H
   refine hp_append (news := (hello2 c i).map evRow) elEv H rfl rfl 2 rfl (hs _ _ rfl) (by simp) (hs _ _ rfl) (by simp <;> omega) (hp_pair (e := 53) (r1 := evRow ⟨1, (i : Int) + 1, ⟨#[]⟩⟩) (r2 := evRow (askV ((i : Int) + 1) [helloV c ((i : Int) + 1) (roleOf i)])) H (List.mem_of_getElem? (i := 0) rfl) rfl rfl (by simp [evRow, Value.oneCell']) (by simp [evRow, Value.oneCell'])) (by simp <;> omega) (by decide) ?_
   intro wd a25 c25 H2
   rw [show ys.map evRow ++ (hello2 c i).map evRow = (ys ++ (hello2 c i)).map evRow from List.map_append.symm] at H2 ⊢
   rw [List.length_map]
   refine wGo (v := .slice a25 ((ys ++ (hello2 c i)).length) c25) nn dd hs rfl H2 ?_
   clear nn dd hs H H2
   refine p_hellosC rfl ?_
   refine wN ?_
   refine tN (wKK hK10 ?_)
   refine wReg ?_
   refine p_hellosC rfl ?_
   refine wN ?_
   refine bN (tN (wKK hK8 ?_))
   refine wReg ?_
   refine p_hellosC rfl ?_
   refine wI 26 rfl (IntWalk.i64_in _ (by omega)) ?_
   refine p_hellosC rfl ?_
   refine wN ?_
   refine tN ?_
   intro aa ww nn dd hs H
   refine ⟨⟨i + 1, a25, c25, (ys ++ (hello2 c i)), (by omega), (Lib.hid (by rw [hy.out]; exact hellos_next c i)), (by rw [List.length_append, hyl]; simp [hello2]; omega), nn, dd, (sat_sub ⟨rfl, rfl, rfl, rfl, rfl, rfl, rfl, trivial⟩ hs), (hp_sel [2, 3] H (by decide) rfl)⟩, ?_⟩
   have m8 := hs 8 _ rfl
   simp only [mu1_8, m8, intOf]
   omega
 · skip
   have z1d : ¬ ((i : Int) < c.lines) := of_decide_eq_false z1
   refine wEx ?_
   refine tX (tX (bX (tN (wKK hK4 ?_))))
   refine wSeqK fun KK11 hK11 => ?_
   refine wReg ?_
   iterate 2 refine p_hellosC rfl ?_
   refine wN ?_
   refine tN (wKK hK11 ?_)
   refine wRet ?_
   exact wR1 rfl rfl (fun ww H => (by have e1 : ys = hellosV c := (by rw [hy.out]; unfold hellosV; congr 1; omega); have hA := H.out.at 0 rfl; have hf := fun q hq => (H.out.newf _ (List.mem_of_getElem? (i := 0) rfl) rfl q hq).resolve_left (by simp); rw [e1] at hA ⊢; exact ⟨a, cc, rfl, hA, hf, H.out.off⟩))
end Go.Proofs.YthflkhalipkdgaaGreat.Mn
