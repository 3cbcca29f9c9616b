/- Layer 35: the reference: events. -/
import Derived.Test.YthflkhalipkdgaaGreatProg
import Derived.Below
import Derived.WalkKit
import Derived.KernelRfl
import Derived.RowKit3
import Derived.Deep.LoopGhost
import Derived.Deep.QuietTactic
import Derived.BigQuiet
import Derived.WideLaws
import Derived.Deep.DeepCutAuto
import Derived.Deep.CutBlock
import Derived.Lib.Hide
import Derived.Laws.BitsLemmas
import Derived.Laws.Bits64
import Derived.Laws.BitsAllLaws
import Derived.IntWalk
import Derived.Outline
import Derived.WalkSpells
import Derived.Test.YthflkhalipkdgaaGreatGA
import Derived.Test.YthflkhalipkdgaaGreatMr1
import Derived.Test.YthflkhalipkdgaaGreatMsP
namespace Go.Proofs.YthflkhalipkdgaaGreat.Mn
set_option maxRecDepth 20000
open Go.RowKit Go.Proofs.YthflkhalipkdgaaGreat.Mem Go.Proofs.YthflkhalipkdgaaGreat.Reg Go.Proofs.YthflkhalipkdgaaGreat.Wk Go.Proofs.YthflkhalipkdgaaGreat.Si Go.Proofs.YthflkhalipkdgaaGreat.Ca Go.Proofs.YthflkhalipkdgaaGreat.Ms Go.Proofs.YthflkhalipkdgaaGreat.Fr Go.Proofs.YthflkhalipkdgaaGreat.Bld
set_option linter.unusedVariables false
set_option linter.unusedSimpArgs false

theorem hello_enc {c : Cfg} (hck : (checkV c != 0) = false) {i r : Int} (hi : 1 ≤ i ∧ i ≤ 255) (hr : 0 ≤ r ∧ r ≤ 255) : (encodeV (helloV c i r)).2 = 0 := by
  have ht := more_rng (wordV (wordV 2166136261 c.secret) (IntKind.u32.wrap i)) (IntKind.u8.wrap r)
  refine enc_good (q := helloV c i r) (ps := [.num 4 2 .some, .num 1 3 .whole, .token]) (hello_ok c i r) rfl rfl rfl ?_ rfl
  simp only [List.all_cons, List.all_nil, Bool.and_eq_true]
  refine ⟨?_, encs1 (n := r) hr, ?_, trivial⟩
  · unfold encPart
    have h1 : someV i = true := by simp [someV, isCountV]; omega
    simp only [Chk.is, fieldOf, helloV, h1, if_true]
    exact encs4 (n := i) (by omega)
  · exact encs4 (n := tokV c.secret i r) ht
theorem ask_ref {q : ReqV} (line : Int) (hq : okReq q) (he : (encodeV q).2 = 0) : askV line [q] = ⟨2, line, (Fr.ofV (encR (numsQ q))).1⟩ := by
  have h1 := enc_ref hq
  have h2 := (h1.1.1 he).2
  have h3 : encR (numsQ q) = (encodeV q).1 := by unfold encR; rw [h2, h1.2 he]; rfl
  rw [h3]
  unfold askV askAll askBytes
  simp only [List.all_cons, List.all_nil, he, List.flatMap_cons, List.flatMap_nil, List.append_nil]
  show (bif ((!((0 : Int) != 0)) && true) then (⟨2, line, ⟨(frOf q).data.toList.toArray⟩⟩ : EvV) else _) = _
  rfl
theorem askRQ (line : Int) (q : ReqV) (w : World) (hq : okReq q) (he : (encodeV q).2 = 0) : Calls Tryz.prog 32 #[.int .i64 line, .agg #[.int .i64 ((numsQ q).getD 0 0), .int .i64 ((numsQ q).getD 1 0), .int .i64 ((numsQ q).getD 2 0), .int .i64 ((numsQ q).getD 3 0), .int .i64 ((numsQ q).getD 4 0), .int .i64 ((numsQ q).getD 5 0), .int .i64 ((numsQ q).getD 6 0), .int .i64 ((numsQ q).getD 7 0), .int .i64 ((numsQ q).getD 8 0), .int .i64 ((numsQ q).getD 9 0), .int .i64 ((numsQ q).getD 10 0), .int .i64 ((numsQ q).getD 11 0), .int .i64 ((numsQ q).getD 12 0), .int .i64 ((numsQ q).getD 13 0), .int .i64 ((numsQ q).getD 14 0), .int .i64 ((numsQ q).getD 15 0)]] w fun e w' => e = .returned (.agg #[.int .i64 ((askV line [q]).kind), .int .i64 ((askV line [q]).n), .string ((askV line [q]).data)]) ∧ Off [] w w' := by
  have h := askRC line (numsQ q) w
  rw [ask_ref line hq he]
  exact h
theorem evs_step {c : Cfg} {s k x x' : Nat} {t t' : Int} {ys : List EvV} {e : EvV} (h : ys = evsV c s k ∧ (x, t) = (evs c s k).2) (h2 : drawEvent x c t = ((e, t'), x')) : ys ++ [e] = evsV c s (k + 1) ∧ (x', t') = (evs c s (k + 1)).2 := by
  obtain ⟨e1, e2⟩ := h
  have e3 : x = (evs c s k).2.1 := congrArg Prod.fst e2
  have e4 : t = (evs c s k).2.2 := congrArg Prod.snd e2
  rw [e3, e4] at h2
  refine ⟨?_, ?_⟩
  · rw [← evsV_next, h2, e1]
  · show (x', t') = ((drawEvent (evs c s k).2.1 c (evs c s k).2.2).2, (drawEvent (evs c s k).2.1 c (evs c s k).2.2).1.2)
    rw [h2]
theorem role3 {i : Nat} (h : (((i : Int) + 1) == 1) = true) : roleOf i = 3 := by
  have h1 : i = 0 := by have := eq_of_beq h; omega
  rw [h1]
  rfl
theorem role1 {i : Nat} (h : (((i : Int) + 1) == 1) = false) : roleOf i = 1 := by
  cases i with
  | zero => cases h
  | succ k => rfl
theorem draw_enc0 {s : Nat} {c : Cfg} {now : Int} (hck : (checkV c != 0) = false) (hn : 0 ≤ now ∧ now ≤ 1073741824) : (encodeV (drawReq s c now).1).2 = 0 := by
  have e : drawReq s c now = drawOk s c now := by
    unfold drawReq
    rw [hck, decide_eq_false (show ¬ now < 0 by omega), decide_eq_false (show ¬ 1073741824 < now by omega)]
    rfl
  rw [e]
  exact (drawOk_enc hck hn).2
theorem belR_lt {s : Nat} {n : Int} (h : s < 18446744073709551616) : (belR s n).2 < 18446744073709551616 := by
  unfold belR
  cases (decide (n < 1) || decide (2147483648 < n))
  · exact nextN_lt h
  · exact h
theorem elREv : ElI Tryz.prog 50 54 3 32 := ElI.of (by kernel_rfl) (by kernel_rfl) (by decide)
def tab_eventsRC : Wk.Tab := [(25, 1, 1), (25, 4, 4), (25, 17, 17)]
theorem p_eventsRC {ops : Array Oper} {rest : List Oper} {o : Oper} {w0 : World} {Q : Exit → Act → World → Prop} {S : List Nat} {R : List Res} {K K' : Wk.Env} {N : Nat} (h : Wk.stp tab_eventsRC N ops K o = some K') (n : Wk.Wk N S w0 K' R (wpList Tryz.prog ops Q rest)) : Wk.Wk N S w0 K R (wpList Tryz.prog ops Q (o :: rest)) := Wk.wP (T := tab_eventsRC) (by kernel_rfl) h n
set_option maxHeartbeats 16000000 in
set_option maxRecDepth 20000 in
theorem eventsRC (m : Nat) (s : Nat) (c : Cfg) (n : Nat) (w : World) (hm : Blk w m #[.int .u64 s] 63) (hsl : s < 18446744073709551616) (hck : (checkV c != 0) = false) (hnn : n ≤ 16384) (hsec : 0 ≤ c.secret ∧ c.secret ≤ 4294967295) : Calls Tryz.prog 17 #[.pointer (some ⟨m, 0, none⟩), .agg (cA c), .int .i64 n] w fun e w' => ∃ a' c', e = .returned (.slice a' (evAll s c ↑n).length c') ∧ (rS a' c' 3 ((evAll s c ↑n).map evRow)).holds w' ∧ (∀ q ∈ (rS a' c' 3 ((evAll s c ↑n).map evRow)).foot, w.heap.size ≤ q) ∧ Off [m] w w' := by
 have H := Lib.hid (Hp.start [] w)
 have H := hp_one hm
 clear hm
 have hr := cfg_rng hck
 refine wStart (args := [.pointer (some ⟨m, 0, none⟩), .agg (cA c), .int .i64 n]) Tryz.func17 rfl rfl rfl H ?_
 clear H
 show Wk 102 _ _ [(0, .pointer (some ⟨m, 0, none⟩)), (1, .agg (cA c)), (2, .int .i64 n)] _ _
 refine wSeqK fun KK1 hK1 => ?_
 refine wReg ?_
 refine wBx rfl rfl rfl fun b4 => ?_
 refine p_eventsRC rfl ?_
 refine wN ?_
 refine tN (wKK hK1 ?_)
 refine wSeqK fun KK2 hK2 => ?_
 refine wReg ?_
 intro aa ww nn dd hs H
 refine hp_bslice0 elREv H rfl (wnt_ok hs rfl) ?_
 intro wd b13 H2
 replace H2 : Hid (Hp [m] w wd (rA (some ⟨b13, 0, none⟩) 0 54 3 (([] : List EvV).map evRow) :: _)) := H2
 refine wGo (v := .slice (some ⟨b13, 0, none⟩) 0 0) nn dd hs rfl H2 ?_
 clear nn dd hs H H2
 refine p_eventsRC rfl ?_
 refine wN ?_
 refine tN (wKK hK2 ?_)
 refine wSeqK fun KK3 hK3 => ?_
 refine wSeqK fun KK4 hK4 => ?_
 refine wReg ?_
 refine p_eventsRC rfl ?_
 refine wN ?_
 refine tN (wKK hK4 ?_)
 refine wBlk ?_
 refine wLoop (fun ab wv => ∃ i : Nat, ∃ a : Option Addr, ∃ cc : Nat, ∃ ys : List EvV, ((i : Int) ≤ c.lines) ∧ (Hid (ys = hellosN c i)) ∧ (ys.length = 2 * i) ∧ ab.tmps.size = 102 ∧ ab.defers = [] ∧ Sat [(0, .pointer (some ⟨m, 0, none⟩)), (1, .agg (cA c)), (2, .int .i64 n), (4, .pointer (some ⟨b4, 0, none⟩)), (6, .slice none 0 0), (7, .slice a ys.length cc), (8, .int .i64 ((i : Int) + 1))] ab ∧ Hid (Hp [m] w wv [rA a cc 54 3 (ys.map evRow), rB b4 25 (cL c), rB m 63 [.int .u64 s]])) (fun ab _ => c.lines.toNat + 1 - (intOf (ab.eval (.tmp 8))).toNat) (fun aa ww nn dd hs H => ⟨0, (some ⟨b13, 0, none⟩), 0, [], (by omega), (Lib.hid rfl), rfl, nn, dd, (sat_sub ⟨rfl, rfl, rfl, rfl, rfl, rfl, rfl, trivial⟩ hs), H⟩) ?_
 rintro a1 wv ⟨i, a, cc, ys, hi, hy, hyl, nn, dd, hs, H⟩
 have mu1_8 := hs 8 _ rfl
 refine wIn nn dd hs H ?_
 clear nn dd hs H
 refine wSeqK fun KK5 hK5 => ?_
 refine wSeqK fun KK6 hK6 => ?_
 refine wReg ?_
 iterate 2 refine p_eventsRC rfl ?_
 refine wLd rfl tyint 1 rfl rfl ?_
 refine p_eventsRC rfl ?_
 refine wN ?_
 refine tN (wKK hK6 ?_)
 refine wCond (E := decide (((i : Int) + 1) ≤ c.lines)) rfl (fun z1 => ?_) (fun z1 => ?_)
 · skip
   have z1d : ((i : Int) + 1) ≤ c.lines := of_decide_eq_true z1
   refine wSk ?_
   refine tN (wKK hK5 ?_)
   refine wSeqK fun KK7 hK7 => ?_
   refine wBlk ?_
   refine wSeqK fun KK8 hK8 => ?_
   refine wReg ?_
   refine p_eventsRC rfl ?_
   refine wN ?_
   refine tN (wKK hK8 ?_)
   refine wSeqK fun KK9 hK9 => ?_
   refine wSeqK fun KK10 hK10 => ?_
   refine wReg ?_
   iterate 2 refine p_eventsRC rfl ?_
   refine wN ?_
   refine tN (wKK hK10 ?_)
   refine wCond (E := ((i : Int) + 1) == 1) rfl (fun z2 => ?_) (fun z2 => ?_)
   · skip
     have z2o : (((i : Int) + 1) != 1) = false := eqq_t z2
     intro aa ww nn dd hs H
     have hro : roleOf i = 3 := role3 z2
     have htw : IntKind.i64.wrap (tokV c.secret ((i : Int) + 1) 3) = tokV c.secret ((i : Int) + 1) 3 := IntWalk.i64_in _ (by have h := more_rng (wordV (wordV 2166136261 c.secret) (IntKind.u32.wrap ((i : Int) + 1))) (IntKind.u8.wrap 3); unfold tokV; omega)
     refine wIn nn dd hs H ?_
     refine wReg ?_
     refine p_eventsRC rfl ?_
     refine wN ?_
     refine tN (wKK hK9 ?_)
     refine wReg ?_
     iterate 2 refine p_eventsRC rfl ?_
     refine wE (.agg #[.int .i64 1, .int .i64 ((i : Int) + 1), .string (⟨#[]⟩ : ByteArray)]) rfl rfl rfl (fun aa ww hs _ => by have e23 := hs 23 _ rfl; have g23 := gt_of e23; simp only [execOp]; go_simp <;> first | rfl | omega) ?_
     iterate 4 refine p_eventsRC rfl ?_
     refine wLd rfl tyuint32 1 rfl rfl ?_
     iterate 2 refine p_eventsRC rfl ?_
     refine wQ (l := [.int .u32 c.secret, .int .i64 ((i : Int) + 1), .int .i64 3]) Tryz.func21 rfl (by kernel_rfl) (.int .u32 (tokV c.secret ((i : Int) + 1) 3)) (fun wc H => tokRC c.secret ((i : Int) + 1) 3 wc hsec) rfl rfl rfl rfl ?_
     refine wE (.int .i64 (tokV c.secret ((i : Int) + 1) 3)) rfl rfl rfl (fun aa ww hs _ => by have e32 := hs 32 _ rfl; have g32 := gt_of e32; simp only [execOp]; go_simp <;> first | rfl | omega) ?_
     refine wE (.agg #[.int .i64 1, .int .i64 0, .int .i64 ((i : Int) + 1), .int .i64 3, .int .i64 (tokV c.secret ((i : Int) + 1) 3), .int .i64 0, .int .i64 0, .int .i64 0, .int .i64 0, .int .i64 0, .int .i64 0, .int .i64 0, .int .i64 0, .int .i64 0, .int .i64 0, .int .i64 0]) rfl rfl rfl (fun aa ww hs _ => by have e26 := hs 26 _ rfl; have g26 := gt_of e26; have e27 := hs 27 _ rfl; have g27 := gt_of e27; have e33 := hs 33 _ rfl; have g33 := gt_of e33; simp only [execOp]; go_simp <;> first | rfl | omega) ?_
     refine wQ (l := [.int .i64 ((i : Int) + 1), .agg #[.int .i64 1, .int .i64 0, .int .i64 ((i : Int) + 1), .int .i64 3, .int .i64 (tokV c.secret ((i : Int) + 1) 3), .int .i64 0, .int .i64 0, .int .i64 0, .int .i64 0, .int .i64 0, .int .i64 0, .int .i64 0, .int .i64 0, .int .i64 0, .int .i64 0, .int .i64 0]]) Tryz.func32 rfl (by kernel_rfl) (.agg #[.int .i64 ((askV ((i : Int) + 1) [(helloV c ((i : Int) + 1) 3)]).kind), .int .i64 ((askV ((i : Int) + 1) [(helloV c ((i : Int) + 1) 3)]).n), .string ((askV ((i : Int) + 1) [(helloV c ((i : Int) + 1) 3)]).data)]) (fun wc H => askRQ ((i : Int) + 1) (helloV c ((i : Int) + 1) 3) wc (hello_ok _ _ _) (hello_enc hck (by omega) (by decide))) rfl rfl rfl rfl ?_
     refine wBs (cs := [.int .i64 1, .int .i64 ((i : Int) + 1), .string (⟨#[]⟩ : ByteArray), .int .i64 ((askV ((i : Int) + 1) [(helloV c ((i : Int) + 1) 3)]).kind), .int .i64 ((askV ((i : Int) + 1) [(helloV c ((i : Int) + 1) 3)]).n), .string ((askV ((i : Int) + 1) [(helloV c ((i : Int) + 1) 3)]).data)]) rfl rfl rfl rfl Tryz.underlying50 tyhoistwayref35_Event rfl (by decide) (by decide) (by kernel_rfl) fun b36 => ?_
     intro aa ww nn dd hs H
     refine hp_append (news := ([(⟨1, (i : Int) + 1, ⟨#[]⟩⟩ : EvV), (askV ((i : Int) + 1) [(helloV c ((i : Int) + 1) 3)])]).map evRow) elREv H rfl rfl 1 rfl (hs _ _ rfl) (by simp) (hs _ _ rfl) (by simp <;> omega) (hp_pair (e := 54) (r1 := evRow ⟨1, (i : Int) + 1, ⟨#[]⟩⟩) (r2 := evRow (askV ((i : Int) + 1) [(helloV c ((i : Int) + 1) 3)])) H (List.mem_of_getElem? (i := 0) rfl) rfl rfl (by simp [evRow, Value.oneCell']) (by simp [evRow, Value.oneCell'])) (by simp <;> omega) (by decide) ?_
     intro wd a37 c37 H2
     rw [show ys.map evRow ++ ([(⟨1, (i : Int) + 1, ⟨#[]⟩⟩ : EvV), (askV ((i : Int) + 1) [(helloV c ((i : Int) + 1) 3)])]).map evRow = (ys ++ ([(⟨1, (i : Int) + 1, ⟨#[]⟩⟩ : EvV), (askV ((i : Int) + 1) [(helloV c ((i : Int) + 1) 3)])])).map evRow from List.map_append.symm] at H2 ⊢
     rw [List.length_map]
     refine wGo (v := .slice a37 ((ys ++ ([(⟨1, (i : Int) + 1, ⟨#[]⟩⟩ : EvV), (askV ((i : Int) + 1) [(helloV c ((i : Int) + 1) 3)])])).length) c37) nn dd hs rfl H2 ?_
     clear nn dd hs H H2
     refine p_eventsRC rfl ?_
     refine wN ?_
     refine bN (tN (wKK hK7 ?_))
     refine wReg ?_
     iterate 2 refine p_eventsRC rfl ?_
     refine wI 19 rfl (IntWalk.i64_in _ (by omega)) ?_
     refine p_eventsRC rfl ?_
     refine wN ?_
     refine tN ?_
     intro aa ww nn dd hs H
     refine ⟨⟨i + 1, a37, c37, (ys ++ ([(⟨1, (i : Int) + 1, ⟨#[]⟩⟩ : EvV), (askV ((i : Int) + 1) [(helloV c ((i : Int) + 1) 3)])])), (by omega), (Lib.hid (by rw [hy.out, ← hellos_next]; unfold hello2; rw [hro])), (by rw [List.length_append, hyl]; simp; omega), nn, dd, (sat_sub ⟨rfl, rfl, rfl, rfl, rfl, rfl, rfl, trivial⟩ hs), (hp_sel [1, 2, 3] H (by decide) rfl)⟩, ?_⟩
     have m8 := hs 8 _ rfl
     simp only [mu1_8, m8, intOf]
     omega
   · skip
     have z2o : (((i : Int) + 1) != 1) = true := eqq_f z2
     intro aa ww nn dd hs H
     have hro : roleOf i = 1 := role1 z2
     have htw : IntKind.i64.wrap (tokV c.secret ((i : Int) + 1) 1) = tokV c.secret ((i : Int) + 1) 1 := IntWalk.i64_in _ (by have h := more_rng (wordV (wordV 2166136261 c.secret) (IntKind.u32.wrap ((i : Int) + 1))) (IntKind.u8.wrap 1); unfold tokV; omega)
     refine wIn nn dd hs H ?_
     refine wSk ?_
     refine tN (wKK hK9 ?_)
     refine wReg ?_
     iterate 2 refine p_eventsRC rfl ?_
     refine wE (.agg #[.int .i64 1, .int .i64 ((i : Int) + 1), .string (⟨#[]⟩ : ByteArray)]) rfl rfl rfl (fun aa ww hs _ => by have e23 := hs 23 _ rfl; have g23 := gt_of e23; simp only [execOp]; go_simp <;> first | rfl | omega) ?_
     iterate 4 refine p_eventsRC rfl ?_
     refine wLd rfl tyuint32 1 rfl rfl ?_
     iterate 2 refine p_eventsRC rfl ?_
     refine wQ (l := [.int .u32 c.secret, .int .i64 ((i : Int) + 1), .int .i64 1]) Tryz.func21 rfl (by kernel_rfl) (.int .u32 (tokV c.secret ((i : Int) + 1) 1)) (fun wc H => tokRC c.secret ((i : Int) + 1) 1 wc hsec) rfl rfl rfl rfl ?_
     refine wE (.int .i64 (tokV c.secret ((i : Int) + 1) 1)) rfl rfl rfl (fun aa ww hs _ => by have e32 := hs 32 _ rfl; have g32 := gt_of e32; simp only [execOp]; go_simp <;> first | rfl | omega) ?_
     refine wE (.agg #[.int .i64 1, .int .i64 0, .int .i64 ((i : Int) + 1), .int .i64 1, .int .i64 (tokV c.secret ((i : Int) + 1) 1), .int .i64 0, .int .i64 0, .int .i64 0, .int .i64 0, .int .i64 0, .int .i64 0, .int .i64 0, .int .i64 0, .int .i64 0, .int .i64 0, .int .i64 0]) rfl rfl rfl (fun aa ww hs _ => by have e26 := hs 26 _ rfl; have g26 := gt_of e26; have e27 := hs 27 _ rfl; have g27 := gt_of e27; have e33 := hs 33 _ rfl; have g33 := gt_of e33; simp only [execOp]; go_simp <;> first | rfl | omega) ?_
     refine wQ (l := [.int .i64 ((i : Int) + 1), .agg #[.int .i64 1, .int .i64 0, .int .i64 ((i : Int) + 1), .int .i64 1, .int .i64 (tokV c.secret ((i : Int) + 1) 1), .int .i64 0, .int .i64 0, .int .i64 0, .int .i64 0, .int .i64 0, .int .i64 0, .int .i64 0, .int .i64 0, .int .i64 0, .int .i64 0, .int .i64 0]]) Tryz.func32 rfl (by kernel_rfl) (.agg #[.int .i64 ((askV ((i : Int) + 1) [(helloV c ((i : Int) + 1) 1)]).kind), .int .i64 ((askV ((i : Int) + 1) [(helloV c ((i : Int) + 1) 1)]).n), .string ((askV ((i : Int) + 1) [(helloV c ((i : Int) + 1) 1)]).data)]) (fun wc H => askRQ ((i : Int) + 1) (helloV c ((i : Int) + 1) 1) wc (hello_ok _ _ _) (hello_enc hck (by omega) (by decide))) rfl rfl rfl rfl ?_
     refine wBs (cs := [.int .i64 1, .int .i64 ((i : Int) + 1), .string (⟨#[]⟩ : ByteArray), .int .i64 ((askV ((i : Int) + 1) [(helloV c ((i : Int) + 1) 1)]).kind), .int .i64 ((askV ((i : Int) + 1) [(helloV c ((i : Int) + 1) 1)]).n), .string ((askV ((i : Int) + 1) [(helloV c ((i : Int) + 1) 1)]).data)]) rfl rfl rfl rfl Tryz.underlying50 tyhoistwayref35_Event rfl (by decide) (by decide) (by kernel_rfl) fun b36 => ?_
     intro aa ww nn dd hs H
     refine hp_append (news := ([(⟨1, (i : Int) + 1, ⟨#[]⟩⟩ : EvV), (askV ((i : Int) + 1) [(helloV c ((i : Int) + 1) 1)])]).map evRow) elREv H rfl rfl 1 rfl (hs _ _ rfl) (by simp) (hs _ _ rfl) (by simp <;> omega) (hp_pair (e := 54) (r1 := evRow ⟨1, (i : Int) + 1, ⟨#[]⟩⟩) (r2 := evRow (askV ((i : Int) + 1) [(helloV c ((i : Int) + 1) 1)])) H (List.mem_of_getElem? (i := 0) rfl) rfl rfl (by simp [evRow, Value.oneCell']) (by simp [evRow, Value.oneCell'])) (by simp <;> omega) (by decide) ?_
     intro wd a37 c37 H2
     rw [show ys.map evRow ++ ([(⟨1, (i : Int) + 1, ⟨#[]⟩⟩ : EvV), (askV ((i : Int) + 1) [(helloV c ((i : Int) + 1) 1)])]).map evRow = (ys ++ ([(⟨1, (i : Int) + 1, ⟨#[]⟩⟩ : EvV), (askV ((i : Int) + 1) [(helloV c ((i : Int) + 1) 1)])])).map evRow from List.map_append.symm] at H2 ⊢
     rw [List.length_map]
     refine wGo (v := .slice a37 ((ys ++ ([(⟨1, (i : Int) + 1, ⟨#[]⟩⟩ : EvV), (askV ((i : Int) + 1) [(helloV c ((i : Int) + 1) 1)])])).length) c37) nn dd hs rfl H2 ?_
     clear nn dd hs H H2
     refine p_eventsRC rfl ?_
     refine wN ?_
     refine bN (tN (wKK hK7 ?_))
     refine wReg ?_
     iterate 2 refine p_eventsRC rfl ?_
     refine wI 19 rfl (IntWalk.i64_in _ (by omega)) ?_
     refine p_eventsRC rfl ?_
     refine wN ?_
     refine tN ?_
     intro aa ww nn dd hs H
     refine ⟨⟨i + 1, a37, c37, (ys ++ ([(⟨1, (i : Int) + 1, ⟨#[]⟩⟩ : EvV), (askV ((i : Int) + 1) [(helloV c ((i : Int) + 1) 1)])])), (by omega), (Lib.hid (by rw [hy.out, ← hellos_next]; unfold hello2; rw [hro])), (by rw [List.length_append, hyl]; simp; omega), nn, dd, (sat_sub ⟨rfl, rfl, rfl, rfl, rfl, rfl, rfl, trivial⟩ hs), (hp_sel [1, 2, 3] H (by decide) rfl)⟩, ?_⟩
     have m8 := hs 8 _ rfl
     simp only [mu1_8, m8, intOf]
     omega
 · skip
   have z1d : ¬ (((i : Int) + 1) ≤ c.lines) := of_decide_eq_false z1
   intro aa ww nn dd hs H
   obtain rfl : ys = hellosV c := by rw [hy.out]; unfold hellosV; congr 1; omega
   refine wIn nn dd hs H ?_
   refine wEx ?_
   refine tX (tX (bX (tN (wKK hK3 ?_))))
   refine wSeqK fun KK11 hK11 => ?_
   refine wReg ?_
   refine p_eventsRC rfl ?_
   refine wN ?_
   refine tN (wKK hK11 ?_)
   refine wSeqK fun KK12 hK12 => ?_
   refine wBlk ?_
   intro aa ww nn dd hs H
   have hhl := hellosV_len hr
   refine wIn nn dd hs H ?_
   refine wLoop (fun ab wv => ∃ k : Nat, ∃ a : Option Addr, ∃ cc : Nat, ∃ ys : List EvV, ∃ x : Nat, ∃ t : Int, (Hid (ys = evsV c s k ∧ (x, t) = (evs c s k).2)) ∧ (ys.length = 2 * c.lines.toNat + k) ∧ (k = 0 ∨ 2 * c.lines.toNat + (k : Int) ≤ n) ∧ (x < 18446744073709551616) ∧ (0 ≤ t ∧ t ≤ k) ∧ ((k : Int) ≤ n) ∧ ab.tmps.size = 102 ∧ ab.defers = [] ∧ Sat [(0, .pointer (some ⟨m, 0, none⟩)), (1, .agg (cA c)), (2, .int .i64 n), (4, .pointer (some ⟨b4, 0, none⟩)), (6, .slice none 0 0), (7, .slice a ys.length cc), (8, .int .i64 ((i : Int) + 1)), (10, .int .i64 t), (17, .bool (decide (((i : Int) + 1) ≤ c.lines)))] ab ∧ Hid (Hp [m] w wv [rA a cc 54 3 (ys.map evRow), rB b4 25 (cL c), rB m 63 [.int .u64 x]])) (fun ab _ => n - lenOf (ab.eval (.tmp 7))) (fun aa ww nn dd hs H => ⟨0, a, cc, (hellosV c), s, 0, (Lib.hid ⟨by unfold evsV evs; rw [List.append_nil], rfl⟩), (by omega), (by omega), hsl, (by omega), (by omega), nn, dd, (sat_sub ⟨rfl, rfl, rfl, rfl, rfl, rfl, rfl, rfl, rfl, trivial⟩ hs), H⟩) ?_
   rintro a2 wv ⟨k, a, cc, ys, x, t, hy, hyl, hk, hxl, ht, hk2, nn, dd, hs, H⟩
   have mu2_7 := hs 7 _ rfl
   refine wIn nn dd hs H ?_
   clear nn dd hs H
   refine wSeqK fun KK13 hK13 => ?_
   refine wSeqK fun KK14 hK14 => ?_
   refine wReg ?_
   refine p_eventsRC rfl ?_
   refine wE (.int .i64 ys.length) rfl rfl rfl (fun aa ww hs _ => by have e38 := hs 38 _ rfl; have g38 := gt_of e38; simp only [execOp]; go_simp <;> first | rfl | omega) ?_
   iterate 2 refine p_eventsRC rfl ?_
   refine wB (c := decide (ys.length < n)) 41 rfl (by simp) ?_
   refine wN ?_
   refine tN (wKK hK14 ?_)
   refine wCond (E := decide (ys.length < n)) rfl (fun z3 => ?_) (fun z3 => ?_)
   · skip
     have z3d : ys.length < n := of_decide_eq_true z3
     intro aa ww nn dd hs H
     have hv0_ := belV_lt (nextN x) (n := c.lines) (by omega)
     have hv1_ := belV_lt (nextN x) (n := c.cars) (by omega)
     refine wIn nn dd hs H ?_
     refine wSk ?_
     refine tN (wKK hK13 ?_)
     refine wBlk ?_
     refine wSeqK fun KK15 hK15 => ?_
     refine wReg ?_
     refine p_eventsRC rfl ?_
     refine wC (l := [.pointer (some ⟨m, 0, none⟩), .int .i64 16]) Tryz.func11 rfl (by kernel_rfl) (fun wc H => belowRN m x 16 wc (H.out.blk 2 rfl) hxl (by decide)) rfl rfl rfl rfl ?_
     intro wc H
     rintro er wd ⟨rfl, hb, ho⟩
     have H2 := hp_turn H (i := 2) (cs' := [.int .u64 (nextN x)]) rfl hb ho
     refine ⟨_, rfl, wkAt H2 ?_⟩
     clear H H2
     refine p_eventsRC rfl ?_
     refine wN ?_
     refine tN (wKK hK15 ?_)
     refine wSeqK fun KK16 hK16 => ?_
     refine wReg ?_
     iterate 2 refine p_eventsRC rfl ?_
     refine wN ?_
     refine tN (wKK hK16 ?_)
     refine wCond (E := decide (((belN x 16) : Int) < 2)) rfl (fun z4 => ?_) (fun z4 => ?_)
     · skip
       have z4d : ((belN x 16) : Int) < 2 := of_decide_eq_true z4
       refine wSeqK fun KK17 hK17 => ?_
       refine wReg ?_
       iterate 2 refine p_eventsRC rfl ?_
       refine wLd rfl tyint 1 rfl rfl ?_
       refine wC (l := [.pointer (some ⟨m, 0, none⟩), .int .i64 c.lines]) Tryz.func11 rfl (by kernel_rfl) (fun wc H => belowROk m (nextN x) c.lines wc (H.out.blk 2 rfl) (nextN_lt hxl) (by omega)) rfl rfl rfl rfl ?_
       intro wc H
       rintro er wd ⟨rfl, hb, ho⟩
       have H2 := hp_turn H (i := 2) (cs' := [.int .u64 (nextN (nextN x))]) rfl hb ho
       refine ⟨_, rfl, wkAt H2 ?_⟩
       clear H H2
       refine p_eventsRC rfl ?_
       refine wI 50 rfl (IntWalk.i64_in _ (by omega)) ?_
       refine p_eventsRC rfl ?_
       refine wN ?_
       refine tN (wKK hK17 ?_)
       refine wReg ?_
       iterate 3 refine p_eventsRC rfl ?_
       refine wLr rfl tyapi_Config 1 rfl (cL c) rfl rfl ?_
       refine p_eventsRC rfl ?_
       refine wC (l := [.pointer (some ⟨m, 0, none⟩), .agg (cA c), .int .i64 t]) Tryz.func14 rfl (by kernel_rfl) (fun wc H => reqRN m (nextN (nextN x)) c t wc (H.out.blk 2 rfl) (nextN_lt (nextN_lt hxl))) rfl rfl rfl rfl ?_
       intro wc H
       rintro er wd ⟨rfl, hb, ho⟩
       have H2 := hp_turn H (i := 2) (cs' := [.int .u64 ((drawReq (nextN (nextN x)) c t).2)]) rfl hb ho
       refine ⟨_, rfl, wkAt H2 ?_⟩
       clear H H2
       refine wQ (l := [.int .i64 (1 + (belV (nextN x) c.lines)), .agg #[.int .i64 ((numsQ ((drawReq (nextN (nextN x)) c t).1)).getD 0 0), .int .i64 ((numsQ ((drawReq (nextN (nextN x)) c t).1)).getD 1 0), .int .i64 ((numsQ ((drawReq (nextN (nextN x)) c t).1)).getD 2 0), .int .i64 ((numsQ ((drawReq (nextN (nextN x)) c t).1)).getD 3 0), .int .i64 ((numsQ ((drawReq (nextN (nextN x)) c t).1)).getD 4 0), .int .i64 ((numsQ ((drawReq (nextN (nextN x)) c t).1)).getD 5 0), .int .i64 ((numsQ ((drawReq (nextN (nextN x)) c t).1)).getD 6 0), .int .i64 ((numsQ ((drawReq (nextN (nextN x)) c t).1)).getD 7 0), .int .i64 ((numsQ ((drawReq (nextN (nextN x)) c t).1)).getD 8 0), .int .i64 ((numsQ ((drawReq (nextN (nextN x)) c t).1)).getD 9 0), .int .i64 ((numsQ ((drawReq (nextN (nextN x)) c t).1)).getD 10 0), .int .i64 ((numsQ ((drawReq (nextN (nextN x)) c t).1)).getD 11 0), .int .i64 ((numsQ ((drawReq (nextN (nextN x)) c t).1)).getD 12 0), .int .i64 ((numsQ ((drawReq (nextN (nextN x)) c t).1)).getD 13 0), .int .i64 ((numsQ ((drawReq (nextN (nextN x)) c t).1)).getD 14 0), .int .i64 ((numsQ ((drawReq (nextN (nextN x)) c t).1)).getD 15 0)]]) Tryz.func32 rfl (by kernel_rfl) (.agg #[.int .i64 ((askV (1 + (belV (nextN x) c.lines)) [((drawReq (nextN (nextN x)) c t).1)]).kind), .int .i64 ((askV (1 + (belV (nextN x) c.lines)) [((drawReq (nextN (nextN x)) c t).1)]).n), .string ((askV (1 + (belV (nextN x) c.lines)) [((drawReq (nextN (nextN x)) c t).1)]).data)]) (fun wc H => askRQ (1 + (belV (nextN x) c.lines)) ((drawReq (nextN (nextN x)) c t).1) wc (drawReq_ok _ _ _) (draw_enc0 hck (by omega))) rfl rfl rfl rfl ?_
       refine wBs (cs := [.int .i64 ((askV (1 + (belV (nextN x) c.lines)) [((drawReq (nextN (nextN x)) c t).1)]).kind), .int .i64 ((askV (1 + (belV (nextN x) c.lines)) [((drawReq (nextN (nextN x)) c t).1)]).n), .string ((askV (1 + (belV (nextN x) c.lines)) [((drawReq (nextN (nextN x)) c t).1)]).data)]) rfl rfl rfl rfl Tryz.underlying50 tyhoistwayref35_Event rfl (by decide) (by decide) (by kernel_rfl) fun b58 => ?_
       intro aa ww nn dd hs H
       refine hp_append (news := [evRow (askV (1 + (belV (nextN x) c.lines)) [((drawReq (nextN (nextN x)) c t).1)])]) elREv H rfl rfl 1 rfl (hs _ _ rfl) (by simp) (hs _ _ rfl) rfl (hp_single (e := 54) H (List.mem_of_getElem? (i := 0) rfl) rfl (by simp [evRow, Value.oneCell'])) (by simp; omega) (by decide) ?_
       intro wd a59 c59 H2
       rw [show ys.map evRow ++ [evRow (askV (1 + (belV (nextN x) c.lines)) [((drawReq (nextN (nextN x)) c t).1)])] = (ys ++ [(askV (1 + (belV (nextN x) c.lines)) [((drawReq (nextN (nextN x)) c t).1)])]).map evRow by simp] at H2 ⊢
       rw [List.length_map]
       refine wGo (v := .slice a59 ((ys ++ [(askV (1 + (belV (nextN x) c.lines)) [((drawReq (nextN (nextN x)) c t).1)])]).length) c59) nn dd hs rfl H2 ?_
       clear nn dd hs H H2
       refine p_eventsRC rfl ?_
       refine wN ?_
       refine bN (tN ?_)
       intro aa ww nn dd hs H
       refine ⟨⟨k + 1, a59, c59, (ys ++ [(askV (1 + (belV (nextN x) c.lines)) [((drawReq (nextN (nextN x)) c t).1)])]), (drawReq (nextN (nextN x)) c t).2, t, (Lib.hid (evs_step hy.out (by simp only [drawEvent, z1, z3, z4, cond_true, cond_false, Bool.not_true, Bool.not_false, Bool.true_and, Bool.and_true, Bool.false_and, Bool.and_false, Bool.true_or, Bool.or_true, Bool.false_or, Bool.or_false]))), (by rw [List.length_append, hyl]; simp; omega), (.inr (by omega)), (drawReq_lt (nextN_lt (nextN_lt hxl))), (by omega), (by omega), nn, dd, (sat_sub ⟨rfl, rfl, rfl, rfl, rfl, rfl, rfl, rfl, rfl, trivial⟩ hs), (hp_sel [1, 2, 3] H (by decide) rfl)⟩, ?_⟩
       have m7 := hs 7 _ rfl
       simp only [mu2_7, m7, intOf, lenOf, List.length_append, List.length_cons, List.length_nil]
       omega
     · skip
       have z4d : ¬ (((belN x 16) : Int) < 2) := of_decide_eq_false z4
       refine wSeqK fun KK18 hK18 => ?_
       refine wReg ?_
       iterate 2 refine p_eventsRC rfl ?_
       refine wN ?_
       refine tN (wKK hK18 ?_)
       refine wCond (E := decide (((belN x 16) : Int) < 4)) rfl (fun z5 => ?_) (fun z5 => ?_)
       · skip
         have z5d : ((belN x 16) : Int) < 4 := of_decide_eq_true z5
         refine wSeqK fun KK19 hK19 => ?_
         refine wReg ?_
         iterate 2 refine p_eventsRC rfl ?_
         refine wI 63 rfl (IntWalk.i64_in _ (by omega)) ?_
         refine p_eventsRC rfl ?_
         refine wN ?_
         refine tN (wKK hK19 ?_)
         refine wReg ?_
         refine p_eventsRC rfl ?_
         refine wE (.agg #[.int .i64 5, .int .i64 0, .string (⟨#[]⟩ : ByteArray)]) rfl rfl rfl (fun aa ww hs _ => by simp only [execOp]; go_simp <;> first | rfl | omega) ?_
         refine wBs (cs := [.int .i64 5, .int .i64 0, .string (⟨#[]⟩ : ByteArray)]) rfl rfl rfl rfl Tryz.underlying50 tyhoistwayref35_Event rfl (by decide) (by decide) (by kernel_rfl) fun b66 => ?_
         intro aa ww nn dd hs H
         refine hp_append (news := [evRow (⟨5, 0, (⟨#[]⟩ : ByteArray)⟩ : EvV)]) elREv H rfl rfl 1 rfl (hs _ _ rfl) (by simp) (hs _ _ rfl) rfl (hp_single (e := 54) H (List.mem_of_getElem? (i := 0) rfl) rfl (by simp [evRow, Value.oneCell'])) (by simp; omega) (by decide) ?_
         intro wd a67 c67 H2
         rw [show ys.map evRow ++ [evRow (⟨5, 0, (⟨#[]⟩ : ByteArray)⟩ : EvV)] = (ys ++ [(⟨5, 0, (⟨#[]⟩ : ByteArray)⟩ : EvV)]).map evRow by simp] at H2 ⊢
         rw [List.length_map]
         refine wGo (v := .slice a67 ((ys ++ [(⟨5, 0, (⟨#[]⟩ : ByteArray)⟩ : EvV)]).length) c67) nn dd hs rfl H2 ?_
         clear nn dd hs H H2
         refine p_eventsRC rfl ?_
         refine wN ?_
         refine bN (tN ?_)
         intro aa ww nn dd hs H
         refine ⟨⟨k + 1, a67, c67, (ys ++ [(⟨5, 0, (⟨#[]⟩ : ByteArray)⟩ : EvV)]), (nextN x), t + 1, (Lib.hid (evs_step hy.out (by simp only [drawEvent, z1, z3, z4, z5, cond_true, cond_false, Bool.not_true, Bool.not_false, Bool.true_and, Bool.and_true, Bool.false_and, Bool.and_false, Bool.true_or, Bool.or_true, Bool.false_or, Bool.or_false]))), (by rw [List.length_append, hyl]; simp; omega), (.inr (by omega)), (nextN_lt hxl), (by omega), (by omega), nn, dd, (sat_sub ⟨rfl, rfl, rfl, rfl, rfl, rfl, rfl, rfl, rfl, trivial⟩ hs), (hp_sel [1, 2, 3] H (by decide) rfl)⟩, ?_⟩
         have m7 := hs 7 _ rfl
         simp only [mu2_7, m7, intOf, lenOf, List.length_append, List.length_cons, List.length_nil]
         omega
       · skip
         have z5d : ¬ (((belN x 16) : Int) < 4) := of_decide_eq_false z5
         refine wSeqK fun KK20 hK20 => ?_
         refine wReg ?_
         iterate 2 refine p_eventsRC rfl ?_
         refine wN ?_
         refine tN (wKK hK20 ?_)
         refine wCond (E := ((belN x 16) : Int) == 4) rfl (fun z6 => ?_) (fun z6 => ?_)
         · skip
           have z6o : (((belN x 16) : Int) != 4) = false := eqq_t z6
           refine wReg ?_
           iterate 3 refine p_eventsRC rfl ?_
           refine wLd rfl tyint 1 rfl rfl ?_
           refine wC (l := [.pointer (some ⟨m, 0, none⟩), .int .i64 c.cars]) Tryz.func11 rfl (by kernel_rfl) (fun wc H => belowROk m (nextN x) c.cars wc (H.out.blk 2 rfl) (nextN_lt hxl) (by omega)) rfl rfl rfl rfl ?_
           intro wc H
           rintro er wd ⟨rfl, hb, ho⟩
           have H2 := hp_turn H (i := 2) (cs' := [.int .u64 (nextN (nextN x))]) rfl hb ho
           refine ⟨_, rfl, wkAt H2 ?_⟩
           clear H H2
           refine p_eventsRC rfl ?_
           refine wI 75 rfl (IntWalk.i64_in _ (by omega)) ?_
           refine wE (.agg #[.int .i64 7, .int .i64 (1 + (belV (nextN x) c.cars)), .string (⟨#[]⟩ : ByteArray)]) rfl rfl rfl (fun aa ww hs _ => by have e75 := hs 75 _ rfl; have g75 := gt_of e75; simp only [execOp]; go_simp <;> first | rfl | omega) ?_
           refine wBs (cs := [.int .i64 7, .int .i64 (1 + (belV (nextN x) c.cars)), .string (⟨#[]⟩ : ByteArray)]) rfl rfl rfl rfl Tryz.underlying50 tyhoistwayref35_Event rfl (by decide) (by decide) (by kernel_rfl) fun b77 => ?_
           intro aa ww nn dd hs H
           refine hp_append (news := [evRow (⟨7, 1 + (belV (nextN x) c.cars), (⟨#[]⟩ : ByteArray)⟩ : EvV)]) elREv H rfl rfl 1 rfl (hs _ _ rfl) (by simp) (hs _ _ rfl) rfl (hp_single (e := 54) H (List.mem_of_getElem? (i := 0) rfl) rfl (by simp [evRow, Value.oneCell'])) (by simp; omega) (by decide) ?_
           intro wd a78 c78 H2
           rw [show ys.map evRow ++ [evRow (⟨7, 1 + (belV (nextN x) c.cars), (⟨#[]⟩ : ByteArray)⟩ : EvV)] = (ys ++ [(⟨7, 1 + (belV (nextN x) c.cars), (⟨#[]⟩ : ByteArray)⟩ : EvV)]).map evRow by simp] at H2 ⊢
           rw [List.length_map]
           refine wGo (v := .slice a78 ((ys ++ [(⟨7, 1 + (belV (nextN x) c.cars), (⟨#[]⟩ : ByteArray)⟩ : EvV)]).length) c78) nn dd hs rfl H2 ?_
           clear nn dd hs H H2
           refine p_eventsRC rfl ?_
           refine wN ?_
           refine bN (tN ?_)
           intro aa ww nn dd hs H
           refine ⟨⟨k + 1, a78, c78, (ys ++ [(⟨7, 1 + (belV (nextN x) c.cars), (⟨#[]⟩ : ByteArray)⟩ : EvV)]), (nextN (nextN x)), t, (Lib.hid (evs_step hy.out (by simp only [drawEvent, z1, z3, z4, z5, z6, z6o, cond_true, cond_false, Bool.not_true, Bool.not_false, Bool.true_and, Bool.and_true, Bool.false_and, Bool.and_false, Bool.true_or, Bool.or_true, Bool.false_or, Bool.or_false]))), (by rw [List.length_append, hyl]; simp; omega), (.inr (by omega)), (nextN_lt (nextN_lt hxl)), (by omega), (by omega), nn, dd, (sat_sub ⟨rfl, rfl, rfl, rfl, rfl, rfl, rfl, rfl, rfl, trivial⟩ hs), (hp_sel [1, 2, 3] H (by decide) rfl)⟩, ?_⟩
           have m7 := hs 7 _ rfl
           simp only [mu2_7, m7, intOf, lenOf, List.length_append, List.length_cons, List.length_nil]
           omega
         · skip
           have z6o : (((belN x 16) : Int) != 4) = true := eqq_f z6
           refine wSeqK fun KK21 hK21 => ?_
           refine wReg ?_
           iterate 2 refine p_eventsRC rfl ?_
           refine wN ?_
           refine tN (wKK hK21 ?_)
           refine wCond (E := decide (((belN x 16) : Int) < 8)) rfl (fun z7 => ?_) (fun z7 => ?_)
           · skip
             have z7d : ((belN x 16) : Int) < 8 := of_decide_eq_true z7
             refine wReg ?_
             iterate 3 refine p_eventsRC rfl ?_
             refine wLd rfl tyint 1 rfl rfl ?_
             refine wC (l := [.pointer (some ⟨m, 0, none⟩), .int .i64 c.lines]) Tryz.func11 rfl (by kernel_rfl) (fun wc H => belowROk m (nextN x) c.lines wc (H.out.blk 2 rfl) (nextN_lt hxl) (by omega)) rfl rfl rfl rfl ?_
             intro wc H
             rintro er wd ⟨rfl, hb, ho⟩
             have H2 := hp_turn H (i := 2) (cs' := [.int .u64 (nextN (nextN x))]) rfl hb ho
             refine ⟨_, rfl, wkAt H2 ?_⟩
             clear H H2
             refine p_eventsRC rfl ?_
             refine wI 86 rfl (IntWalk.i64_in _ (by omega)) ?_
             refine wE (.agg #[.int .i64 4, .int .i64 (1 + (belV (nextN x) c.lines)), .string (⟨#[]⟩ : ByteArray)]) rfl rfl rfl (fun aa ww hs _ => by have e86 := hs 86 _ rfl; have g86 := gt_of e86; simp only [execOp]; go_simp <;> first | rfl | omega) ?_
             refine wBs (cs := [.int .i64 4, .int .i64 (1 + (belV (nextN x) c.lines)), .string (⟨#[]⟩ : ByteArray)]) rfl rfl rfl rfl Tryz.underlying50 tyhoistwayref35_Event rfl (by decide) (by decide) (by kernel_rfl) fun b88 => ?_
             intro aa ww nn dd hs H
             refine hp_append (news := [evRow (⟨4, 1 + (belV (nextN x) c.lines), (⟨#[]⟩ : ByteArray)⟩ : EvV)]) elREv H rfl rfl 1 rfl (hs _ _ rfl) (by simp) (hs _ _ rfl) rfl (hp_single (e := 54) H (List.mem_of_getElem? (i := 0) rfl) rfl (by simp [evRow, Value.oneCell'])) (by simp; omega) (by decide) ?_
             intro wd a89 c89 H2
             rw [show ys.map evRow ++ [evRow (⟨4, 1 + (belV (nextN x) c.lines), (⟨#[]⟩ : ByteArray)⟩ : EvV)] = (ys ++ [(⟨4, 1 + (belV (nextN x) c.lines), (⟨#[]⟩ : ByteArray)⟩ : EvV)]).map evRow by simp] at H2 ⊢
             rw [List.length_map]
             refine wGo (v := .slice a89 ((ys ++ [(⟨4, 1 + (belV (nextN x) c.lines), (⟨#[]⟩ : ByteArray)⟩ : EvV)]).length) c89) nn dd hs rfl H2 ?_
             clear nn dd hs H H2
             refine p_eventsRC rfl ?_
             refine wN ?_
             refine bN (tN ?_)
             intro aa ww nn dd hs H
             refine ⟨⟨k + 1, a89, c89, (ys ++ [(⟨4, 1 + (belV (nextN x) c.lines), (⟨#[]⟩ : ByteArray)⟩ : EvV)]), (nextN (nextN x)), t, (Lib.hid (evs_step hy.out (by simp only [drawEvent, z1, z3, z4, z5, z6, z6o, z7, cond_true, cond_false, Bool.not_true, Bool.not_false, Bool.true_and, Bool.and_true, Bool.false_and, Bool.and_false, Bool.true_or, Bool.or_true, Bool.false_or, Bool.or_false]))), (by rw [List.length_append, hyl]; simp; omega), (.inr (by omega)), (nextN_lt (nextN_lt hxl)), (by omega), (by omega), nn, dd, (sat_sub ⟨rfl, rfl, rfl, rfl, rfl, rfl, rfl, rfl, rfl, trivial⟩ hs), (hp_sel [1, 2, 3] H (by decide) rfl)⟩, ?_⟩
             have m7 := hs 7 _ rfl
             simp only [mu2_7, m7, intOf, lenOf, List.length_append, List.length_cons, List.length_nil]
             omega
           · skip
             have z7d : ¬ (((belN x 16) : Int) < 8) := of_decide_eq_false z7
             refine wReg ?_
             iterate 3 refine p_eventsRC rfl ?_
             refine wLd rfl tyint 1 rfl rfl ?_
             refine wC (l := [.pointer (some ⟨m, 0, none⟩), .int .i64 c.lines]) Tryz.func11 rfl (by kernel_rfl) (fun wc H => belowROk m (nextN x) c.lines wc (H.out.blk 2 rfl) (nextN_lt hxl) (by omega)) rfl rfl rfl rfl ?_
             intro wc H
             rintro er wd ⟨rfl, hb, ho⟩
             have H2 := hp_turn H (i := 2) (cs' := [.int .u64 (nextN (nextN x))]) rfl hb ho
             refine ⟨_, rfl, wkAt H2 ?_⟩
             clear H H2
             refine p_eventsRC rfl ?_
             refine wI 95 rfl (IntWalk.i64_in _ (by omega)) ?_
             refine wE (.agg #[.int .i64 3, .int .i64 (1 + (belV (nextN x) c.lines)), .string (⟨#[]⟩ : ByteArray)]) rfl rfl rfl (fun aa ww hs _ => by have e95 := hs 95 _ rfl; have g95 := gt_of e95; simp only [execOp]; go_simp <;> first | rfl | omega) ?_
             refine wBs (cs := [.int .i64 3, .int .i64 (1 + (belV (nextN x) c.lines)), .string (⟨#[]⟩ : ByteArray)]) rfl rfl rfl rfl Tryz.underlying50 tyhoistwayref35_Event rfl (by decide) (by decide) (by kernel_rfl) fun b97 => ?_
             intro aa ww nn dd hs H
             refine hp_append (news := [evRow (⟨3, 1 + (belV (nextN x) c.lines), (⟨#[]⟩ : ByteArray)⟩ : EvV)]) elREv H rfl rfl 1 rfl (hs _ _ rfl) (by simp) (hs _ _ rfl) rfl (hp_single (e := 54) H (List.mem_of_getElem? (i := 0) rfl) rfl (by simp [evRow, Value.oneCell'])) (by simp; omega) (by decide) ?_
             intro wd a98 c98 H2
             rw [show ys.map evRow ++ [evRow (⟨3, 1 + (belV (nextN x) c.lines), (⟨#[]⟩ : ByteArray)⟩ : EvV)] = (ys ++ [(⟨3, 1 + (belV (nextN x) c.lines), (⟨#[]⟩ : ByteArray)⟩ : EvV)]).map evRow by simp] at H2 ⊢
             rw [List.length_map]
             refine wGo (v := .slice a98 ((ys ++ [(⟨3, 1 + (belV (nextN x) c.lines), (⟨#[]⟩ : ByteArray)⟩ : EvV)]).length) c98) nn dd hs rfl H2 ?_
             clear nn dd hs H H2
             refine p_eventsRC rfl ?_
             refine wN ?_
             refine bN (tN ?_)
             intro aa ww nn dd hs H
             refine ⟨⟨k + 1, a98, c98, (ys ++ [(⟨3, 1 + (belV (nextN x) c.lines), (⟨#[]⟩ : ByteArray)⟩ : EvV)]), (nextN (nextN x)), t, (Lib.hid (evs_step hy.out (by simp only [drawEvent, z1, z3, z4, z5, z6, z6o, z7, cond_true, cond_false, Bool.not_true, Bool.not_false, Bool.true_and, Bool.and_true, Bool.false_and, Bool.and_false, Bool.true_or, Bool.or_true, Bool.false_or, Bool.or_false]))), (by rw [List.length_append, hyl]; simp; omega), (.inr (by omega)), (nextN_lt (nextN_lt hxl)), (by omega), (by omega), nn, dd, (sat_sub ⟨rfl, rfl, rfl, rfl, rfl, rfl, rfl, rfl, rfl, trivial⟩ hs), (hp_sel [1, 2, 3] H (by decide) rfl)⟩, ?_⟩
             have m7 := hs 7 _ rfl
             simp only [mu2_7, m7, intOf, lenOf, List.length_append, List.length_cons, List.length_nil]
             omega
   · skip
     have z3d : ¬ (ys.length < n) := of_decide_eq_false z3
     intro aa ww nn dd hs H
     have hcc := rA_cap (H.out.at 0 rfl)
     rw [List.length_map] at hcc
     have hf : ∀ q ∈ footA a, w.heap.size ≤ q := fun q hq => (H.out.newf _ (List.mem_of_getElem? (i := 0) rfl) rfl q hq).resolve_left (fun h => List.pairwise_iff_getElem.1 H.out.sep 0 2 (by simp) (by simp) (by decide) rfl q hq (by rw [List.mem_singleton.1 h]; simp [rB]))
     have hkn : k = n - (hellosV c).length := by rw [hellosV_len hr]; omega
     have ee : evAll s c (n : Int) = ys.take n := by unfold evAll; rw [hck, decide_eq_false (show ¬ (n : Int) < 0 by omega), decide_eq_false (show ¬ 16384 < (n : Int) by omega)]; show (evsV c s ((n : Int).toNat - (hellosV c).length)).take (n : Int).toNat = _; rw [Int.toNat_natCast, ← hkn, hy.out.1]
     refine wIn nn dd hs H ?_
     refine wEx ?_
     refine tX (tX (bX (tN (wKK hK12 ?_))))
     refine wSeqK fun KK22 hK22 => ?_
     refine wReg ?_
     iterate 2 refine p_eventsRC rfl ?_
     refine wE (.slice a n cc) rfl rfl rfl (fun aa ww hs _ => exec_cut_h elREv rfl (hs _ _ rfl) ((hs _ _ rfl).trans (by first | rfl | simp)) (by omega)) ?_
     refine p_eventsRC rfl ?_
     refine wN ?_
     refine tN (wKK hK22 ?_)
     refine wRet ?_
     exact wR1 rfl rfl (fun ww H => ⟨a, cc, by rw [ee, List.length_take, Nat.min_eq_left (by omega)], by rw [ee]; exact rS_take (give_A (w := w) (H.out.at 0 rfl) hf).1 n (by omega), by rw [ee]; exact fun q hq => hf q (foot_sub hq), H.out.off⟩)
end Go.Proofs.YthflkhalipkdgaaGreat.Mn
