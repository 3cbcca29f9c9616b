/- Layer 9: the reference in the books of the program; rows that are the same; what is fixed by number. -/
import Derived.Test.YtnanihffljpdbaaProg
import Derived.Below
import Derived.WalkKit
import Derived.KernelRfl
import Derived.RowKit3
import Derived.Deep.LoopGhost
import Derived.Deep.QuietTactic
import Derived.BigQuiet
import Derived.WideLaws
import Derived.Deep.DeepCutAuto
import Derived.Deep.CutBlock
import Derived.Lib.Hide
import Derived.Laws.BitsLemmas
import Derived.Laws.Bits64
import Derived.Laws.BitsAllLaws
import Derived.IntWalk
import Derived.Outline
import Derived.WalkSpells
import Derived.Test.YtnanihffljpdbaaGA
import Derived.Test.YtnanihffljpdbaaBp2
namespace Go.Proofs.Ytnanihffljpdbaa.Bk
open Go.RowKit Go.Proofs.Ytnanihffljpdbaa.Mem Go.Proofs.Ytnanihffljpdbaa.Reg Go.Proofs.Ytnanihffljpdbaa.Wk Go.Proofs.Ytnanihffljpdbaa.Si Go.Proofs.Ytnanihffljpdbaa.Ca Go.Proofs.Ytnanihffljpdbaa.Sc6
set_option linter.unusedVariables false
set_option linter.unusedSimpArgs false

theorem InvB.small {b : BookV} (h : InvB b) : b.live.length ≤ 64 ∧ b.done.length ≤ 64 ∧ b.conf.cars ≤ 4 := by
  have h1 := h.ok.live
  have h2 := h.ok.done
  rcases h.room with rfl | ⟨h3, h4⟩
  · decide
  · have := cfg_in (c := b.conf) (by rw [h3]; rfl)
    omega
theorem okR {b : BookV} (h : InvB b) : OkR (toR b) := by
  have := h.small
  refine ⟨?_, ?_, h.ok.modes, h.ok.index, this.2.2⟩
  · show (liveV b).length ≤ 1000
    unfold liveV
    rw [List.length_map]
    omega
  · show b.done.length ≤ 1000
    omega
instance : DecidableEq Cfg := fun x y => if h : x.floors = y.floors ∧ x.cars = y.cars ∧ x.seats = y.seats ∧ x.calls = y.calls ∧ x.lines = y.lines ∧ x.keys = y.keys ∧ x.window = y.window ∧ x.burst = y.burst ∧ x.rate = y.rate ∧ x.idle = y.idle ∧ x.inn = y.inn ∧ x.out = y.out ∧ x.feed = y.feed ∧ x.retries = y.retries ∧ x.life = y.life ∧ x.door = y.door ∧ x.holds = y.holds ∧ x.secret = y.secret then isTrue (by cases x; cases y; simp_all) else isFalse (fun e => h (by subst e; simp))
set_option maxRecDepth 20000 in
set_option maxHeartbeats 16000000 in
theorem run_eq_cfg (X Y : Cfg) (w : World) : (Op.equalIn 10000 24 (.agg #[.int .i64 X.floors, .int .i64 X.cars, .int .i64 X.seats, .int .i64 X.calls, .int .i64 X.lines, .int .i64 X.keys, .int .i64 X.window, .int .i64 X.burst, .int .i64 X.rate, .int .i64 X.idle, .int .i64 X.inn, .int .i64 X.out, .int .i64 X.feed, .int .i64 X.retries, .int .i64 X.life, .int .i64 X.door, .int .i64 X.holds, .int .u32 X.secret]) (.agg #[.int .i64 Y.floors, .int .i64 Y.cars, .int .i64 Y.seats, .int .i64 Y.calls, .int .i64 Y.lines, .int .i64 Y.keys, .int .i64 Y.window, .int .i64 Y.burst, .int .i64 Y.rate, .int .i64 Y.idle, .int .i64 Y.inn, .int .i64 Y.out, .int .i64 Y.feed, .int .i64 Y.retries, .int .i64 Y.life, .int .i64 Y.door, .int .i64 Y.holds, .int .u32 Y.secret])).run Try.prog w = .ok (decide (X = Y)) w := by
  have u_i64 := Try.underlying3
  have u_u32 := Try.underlying22
  rw [show (10000 : Nat) = 9999 + 1 from rfl]
  go_simp
  clear u_i64 u_u32
  by_cases he : X = Y
  · subst he
    simp
  · have hf : decide (X = Y) = false := by simpa using he
    rw [hf]
    iterate 18 (refine if_chainR fun _ => ?_)
    exfalso
    refine he ?_
    obtain ⟨x1, x2, x3, x4, x5, x6, x7, x8, x9, x10, x11, x12, x13, x14, x15, x16, x17, x18⟩ := X
    obtain ⟨y1, y2, y3, y4, y5, y6, y7, y8, y9, y10, y11, y12, y13, y14, y15, y16, y17, y18⟩ := Y
    simp_all
theorem run_eq_cfg_same (X : Cfg) (w : World) : (Op.equalIn 10000 24 (.agg #[.int .i64 X.floors, .int .i64 X.cars, .int .i64 X.seats, .int .i64 X.calls, .int .i64 X.lines, .int .i64 X.keys, .int .i64 X.window, .int .i64 X.burst, .int .i64 X.rate, .int .i64 X.idle, .int .i64 X.inn, .int .i64 X.out, .int .i64 X.feed, .int .i64 X.retries, .int .i64 X.life, .int .i64 X.door, .int .i64 X.holds, .int .u32 X.secret]) (.agg #[.int .i64 X.floors, .int .i64 X.cars, .int .i64 X.seats, .int .i64 X.calls, .int .i64 X.lines, .int .i64 X.keys, .int .i64 X.window, .int .i64 X.burst, .int .i64 X.rate, .int .i64 X.idle, .int .i64 X.inn, .int .i64 X.out, .int .i64 X.feed, .int .i64 X.retries, .int .i64 X.life, .int .i64 X.door, .int .i64 X.holds, .int .u32 X.secret])).run Try.prog w = .ok true w := by
  have h := run_eq_cfg X X w
  rwa [decide_eq_true rfl] at h
set_option maxRecDepth 20000 in
set_option maxHeartbeats 16000000 in
theorem run_eq_pair (X Y : PairV) (w : World) : (Op.equalIn 10000 97 (.agg #[.int .i64 X.1, .int .i64 X.2.id, .int .i64 X.2.kind, .int .i64 X.2.src, .int .i64 X.2.dst, .int .i64 X.2.car, .int .i64 X.2.state, .int .i64 X.2.owner, .int .i64 X.2.born]) (.agg #[.int .i64 Y.1, .int .i64 Y.2.id, .int .i64 Y.2.kind, .int .i64 Y.2.src, .int .i64 Y.2.dst, .int .i64 Y.2.car, .int .i64 Y.2.state, .int .i64 Y.2.owner, .int .i64 Y.2.born])).run Try.prog w = .ok (decide (X = Y)) w := by
  have u_i64 := Try.underlying3
  have us0 := Try.underlying38
  rw [show (10000 : Nat) = 9999 + 1 from rfl]
  go_simp
  clear u_i64 us0
  by_cases he : X = Y
  · subst he
    simp
  · have hf : decide (X = Y) = false := by simpa using he
    rw [hf]
    iterate 9 (refine if_chainR fun _ => ?_)
    exfalso
    refine he ?_
    obtain ⟨x1, ⟨x2, x3, x4, x5, x6, x7, x8, x9⟩⟩ := X
    obtain ⟨y1, ⟨y2, y3, y4, y5, y6, y7, y8, y9⟩⟩ := Y
    simp_all
theorem run_eq_pair_same (X : PairV) (w : World) : (Op.equalIn 10000 97 (.agg #[.int .i64 X.1, .int .i64 X.2.id, .int .i64 X.2.kind, .int .i64 X.2.src, .int .i64 X.2.dst, .int .i64 X.2.car, .int .i64 X.2.state, .int .i64 X.2.owner, .int .i64 X.2.born]) (.agg #[.int .i64 X.1, .int .i64 X.2.id, .int .i64 X.2.kind, .int .i64 X.2.src, .int .i64 X.2.dst, .int .i64 X.2.car, .int .i64 X.2.state, .int .i64 X.2.owner, .int .i64 X.2.born])).run Try.prog w = .ok true w := by
  have h := run_eq_pair X X w
  rwa [decide_eq_true rfl] at h
theorem run_eq4 (m : List Int) (w : World) : (Op.equalIn 10000 31 (.agg #[.int .i64 (m.getD 0 0), .int .i64 (m.getD 1 0), .int .i64 (m.getD 2 0), .int .i64 (m.getD 3 0)]) (.agg #[.int .i64 (m.getD 0 0), .int .i64 (m.getD 1 0), .int .i64 (m.getD 2 0), .int .i64 (m.getD 3 0)])).run Try.prog w = .ok true w := by
  have h := run_equalIn_ints (P := Try.prog) w 9998 31 3 4 .i64 Try.underlying31 Try.underlying3 (fun w => by go_simp) [m.getD 0 0, m.getD 1 0, m.getD 2 0, m.getD 3 0] [m.getD 0 0, m.getD 1 0, m.getD 2 0, m.getD 3 0] rfl rfl
  rw [decide_eq_true rfl] at h
  exact h
theorem tyS_shelf_Pair_int_api_Call_ : TyI Try.prog 27 1 false [.slice none 0 0] := ⟨by kernel_rfl, by kernel_rfl, by kernel_rfl⟩
def tab_callsT : Wk.Tab := []
theorem p_callsT {ops : Array Oper} {rest : List Oper} {o : Oper} {w0 : World} {Q : Exit → Act → World → Prop} {S : List Nat} {R : List Res} {K K' : Wk.Env} {N : Nat} (h : Wk.stp tab_callsT N ops K o = some K') (n : Wk.Wk N S w0 K' R (wpList Try.prog ops Q rest)) : Wk.Wk N S w0 K R (wpList Try.prog ops Q (o :: rest)) := Wk.wP (T := tab_callsT) (by kernel_rfl) h n
set_option maxHeartbeats 4000000 in
set_option maxRecDepth 20000 in
theorem callsT_r6 (c : Nat) (c2 : Nat) (xs : List CallV) (hx : xs.length ≤ 1000000) (i : Nat) (hi : i ≤ xs.length) (z1d : i < xs.length) (y1 : Addr) (y2 : Addr) (x : CallV) (HRx : Hid ((xs.map callRow)[i]? = some [.int .i64 x.id, .int .i64 x.kind, .int .i64 x.src, .int .i64 x.dst, .int .i64 x.car, .int .i64 x.state, .int .i64 x.owner, .int .i64 x.born])) {wa wb : World} (H : Hid (Hp [] wa wb [rS (some y2) c2 8 (xs.map callRow), rS (some y1) c 8 (xs.map callRow)])) (ac0 : Act) (hz : ac0.tmps.size = 26) (so0 : ac0.eval (.tmp 0) = .slice (some y1) xs.length c) (so1 : ac0.eval (.tmp 1) = .slice (some y2) xs.length c2) (so5 : ac0.eval (.tmp 5) = .int .i64 i) {QR : Exit → Act → World → Prop} (hfin : ∀ (ac1 : Act) (wz : World), ac1.tmps.size = 26 → ac1.defers = ac0.defers → (∀ t, ([17, 18, 19, 20, 21, 22, 23, 24, 25] : List Nat).contains t = false → ac1.eval (.tmp t) = ac0.eval (.tmp t)) → ac1.eval (.tmp 25) = .bool false →  Hid (Hp [] wa wz [rS (some y2) c2 8 (xs.map callRow), rS (some y1) c 8 (xs.map callRow)]) → QR .normal ac1 wz) : (regAt Try.f21 6).wp Try.prog QR ac0 wb := by
  refine wp_region_st mixedP ⟨[0, 0, 1, 2, 0, 0, 1, 2, 3], by kernel_rfl⟩ [[], [], [0, 1], [0, 1, 2], [], [], [4, 5], [4, 5, 6], [0, 1, 2, 3, 4, 5, 6, 7]] (by kernel_rfl) (by kernel_rfl) 26 hz (by kernel_rfl) (fun (xx : Unit) jx => nth [.slice (some y1) xs.length c, .int .i64 i, .pointer (some (y1.add (i * 8))), .agg (xA x), .slice (some y2) xs.length c2, .int .i64 i, .pointer (some (y2.add (i * 8))), .agg (xA x), .bool false] jx) (fun (LL : Nat → Bool) (xx : Unit) ww => Hp [] wa ww [rS (some y2) c2 8 (xs.map callRow), rS (some y1) c 8 (xs.map callRow)]) () H.out.drew ?_ (steps_al ?_) ?_ ?_
  · exact fun _ _ _ _ _ h => h
  · refine al_cons ?_ (al_cons ?_ (al_cons ?_ (al_cons ?_ (al_cons ?_ (al_cons ?_ (al_cons ?_ (al_cons ?_ (al_cons ?_ (al_nil)))))))))
    · intro LL xx ac wc sg hst hwant QQ hgo
      exact op_val hwant hgo hst _ (exec_move rfl ((sg.free 0 (by kernel_rfl)).trans so0)) rfl
    · intro LL xx ac wc sg hst hwant QQ hgo
      exact op_val hwant hgo hst _ (exec_move rfl ((sg.free 5 (by kernel_rfl)).trans so5)) rfl
    · intro LL xx ac wc sg hst hwant QQ hgo
      have se17 : ac.eval (.tmp 17) = _ := (sg.slot 0 (sg.anc 0 rfl))
      have sg17 := gt_of se17
      have se18 : ac.eval (.tmp 18) = _ := (sg.slot 1 (sg.anc 1 rfl))
      have sg18 := gt_of se18
      (try simp only [nth] at se17 sg17 se18 sg18)
      exact op_val hwant hgo hst _ (by simp only [execOp, nth]; go_simp <;> omega) rfl
    · intro LL xx ac wc sg hst hwant QQ hgo
      have H := Lib.hid hst
      refine hpS_load tyapi_Call H (y := y1) rfl (sg.slot 2 (sg.anc 2 rfl)) hwant (by (repeat (first | exact List.Mem.head _ | apply List.Mem.tail))) HRx.out rfl ?_
      exact hgo _ () _ (fun _ _ => rfl) rfl hst
    · intro LL xx ac wc sg hst hwant QQ hgo
      exact op_val hwant hgo hst _ (exec_move rfl ((sg.free 1 (by kernel_rfl)).trans so1)) rfl
    · intro LL xx ac wc sg hst hwant QQ hgo
      exact op_val hwant hgo hst _ (exec_move rfl ((sg.free 5 (by kernel_rfl)).trans so5)) rfl
    · intro LL xx ac wc sg hst hwant QQ hgo
      have se21 : ac.eval (.tmp 21) = _ := (sg.slot 4 (sg.anc 4 rfl))
      have sg21 := gt_of se21
      have se22 : ac.eval (.tmp 22) = _ := (sg.slot 5 (sg.anc 5 rfl))
      have sg22 := gt_of se22
      (try simp only [nth] at se21 sg21 se22 sg22)
      exact op_val hwant hgo hst _ (by simp only [execOp, nth]; go_simp <;> omega) rfl
    · intro LL xx ac wc sg hst hwant QQ hgo
      have H := Lib.hid hst
      refine hpS_load tyapi_Call H (y := y2) rfl (sg.slot 6 (sg.anc 6 rfl)) hwant (by (repeat (first | exact List.Mem.head _ | apply List.Mem.tail))) HRx.out rfl ?_
      exact hgo _ () _ (fun _ _ => rfl) rfl hst
    · intro LL xx ac wc sg hst hwant QQ hgo
      exact op_val hwant hgo hst (.bool (!true)) (exec_neq rfl (sg.slot 3 (sg.anc 3 rfl)) (sg.slot 7 (sg.anc 7 rfl)) (by kernel_rfl) (run_eq_call_same x wc)) (congrArg Value.bool (by simp))
  · exact skips [] (by kernel_rfl) (fun _ h => by cases h)
  · intro xx ac1 wz hfr hsl hst
    exact hfin ac1 wz (hfr.size.trans hz) hfr.defers (fr_keep hfr [17, 18, 19, 20, 21, 22, 23, 24, 25] (by kernel_rfl)) (hsl 8 (by decide)) (Lib.hid hst)
set_option maxHeartbeats 16000000 in
set_option maxRecDepth 20000 in
theorem callsT (a : Option Addr) (c : Nat) (a2 : Option Addr) (c2 : Nat) (xs : List CallV) (w : World) (h1 : (rS a c 8 (xs.map callRow)).holds w) (h2 : (rS a2 c2 8 (xs.map callRow)).holds w) (hx : xs.length ≤ 1000000) : Calls Try.prog 21 #[.slice a xs.length c, .slice a2 xs.length c2] w fun e w' => e = .returned (.bool true) ∧ Off [] w w' := by
 have H := Lib.hid (Hp.start [] w)
 have H := hp_old H h1 (by decide)
 have H := hp_old H h2 (by decide)
 clear h1 h2
 refine wStart (args := [.slice a xs.length c, .slice a2 xs.length c2]) Try.func21 rfl rfl rfl H ?_
 clear H
 show Wk 26 _ _ [(0, .slice a xs.length c), (1, .slice a2 xs.length c2)] _ _
 refine wSeqK fun KK1 hK1 => ?_
 refine wReg ?_
 refine p_callsT rfl ?_
 refine wN ?_
 refine tN (wKK hK1 ?_)
 refine wSeqK fun KK2 hK2 => ?_
 refine wSeqK fun KK3 hK3 => ?_
 refine wReg ?_
 refine p_callsT rfl ?_
 refine wE (.int .i64 xs.length) rfl rfl rfl (fun aa ww hs _ => by have e6 := hs 6 _ rfl; have g6 := gt_of e6; simp only [execOp]; go_simp <;> first | rfl | omega) ?_
 refine p_callsT rfl ?_
 refine wE (.int .i64 xs.length) rfl rfl rfl (fun aa ww hs _ => by have e8 := hs 8 _ rfl; have g8 := gt_of e8; simp only [execOp]; go_simp <;> first | rfl | omega) ?_
 refine p_callsT rfl ?_
 refine wB (c := false) 10 rfl (by simp) ?_
 refine wN ?_
 refine tN (wKK hK3 ?_)
 refine wCf rfl ?_
 refine wSk ?_
 refine tN (wKK hK2 ?_)
 refine wSeqK fun KK4 hK4 => ?_
 refine wSeqK fun KK5 hK5 => ?_
 refine wReg ?_
 refine p_callsT rfl ?_
 refine wN ?_
 refine tN (wKK hK5 ?_)
 refine wBlk ?_
 refine wLoop (fun ab wv => ∃ i : Nat, (i ≤ xs.length) ∧ ab.tmps.size = 26 ∧ ab.defers = [] ∧ Sat [(0, .slice a xs.length c), (1, .slice a2 xs.length c2), (5, .int .i64 i), (10, .bool false)] ab ∧ Hid (Hp [] w wv [rS a2 c2 8 (xs.map callRow), rS a c 8 (xs.map callRow)])) (fun ab _ => xs.length - (intOf (ab.eval (.tmp 5))).toNat) (fun aa ww nn dd hs H => ⟨0, (Nat.zero_le _), nn, dd, (sat_sub ⟨rfl, rfl, rfl, rfl, trivial⟩ hs), H⟩) ?_
 rintro a1 wv ⟨i, hi, nn, dd, hs, H⟩
 have mu1_5 := hs 5 _ rfl
 refine wIn nn dd hs H ?_
 clear nn dd hs H
 refine wSeqK fun KK6 hK6 => ?_
 refine wSeqK fun KK7 hK7 => ?_
 refine wReg ?_
 iterate 2 refine p_callsT rfl ?_
 refine wE (.int .i64 xs.length) rfl rfl rfl (fun aa ww hs _ => by have e12 := hs 12 _ rfl; have g12 := gt_of e12; simp only [execOp]; go_simp <;> first | rfl | omega) ?_
 refine p_callsT rfl ?_
 refine wB (c := decide (i < xs.length)) 14 rfl (by simp) ?_
 refine wN ?_
 refine tN (wKK hK7 ?_)
 refine wCond (E := decide (i < xs.length)) rfl (fun z1 => ?_) (fun z1 => ?_)
 · skip
   have z1d : i < xs.length := of_decide_eq_true z1
   intro aa ww nn dd hs H
   obtain ⟨y1, rfl⟩ := some_of_row (i := i) (hp_held H (show rS a _ 8 (xs.map callRow) ∈ _ by (repeat (first | exact List.Mem.head _ | apply List.Mem.tail)))) (by simp; omega)
   obtain ⟨y2, rfl⟩ := some_of_row (i := i) (hp_held H (show rS a2 _ 8 (xs.map callRow) ∈ _ by (repeat (first | exact List.Mem.head _ | apply List.Mem.tail)))) (by simp; omega)
   obtain ⟨x, hx⟩ : ∃ x, xs[i]? = some x := ⟨xs[i], List.getElem?_eq_getElem (by omega)⟩
   have HRx := Lib.hid (show (xs.map callRow)[i]? = some [.int .i64 x.id, .int .i64 x.kind, .int .i64 x.src, .int .i64 x.dst, .int .i64 x.car, .int .i64 x.state, .int .i64 x.owner, .int .i64 x.born] by rw [List.getElem?_map, hx]; rfl)
   clear hx
   refine wIn nn dd hs H ?_
   refine wSk ?_
   refine tN (wKK hK6 ?_)
   refine wSeqK fun KK8 hK8 => ?_
   refine wBlk ?_
   refine wSeqK fun KK9 hK9 => ?_
   intro aa ww nn dd hs H
   refine callsT_r6 c c2 xs hx i hi z1d y1 y2 x HRx H aa nn (hs 0 _ rfl) (hs 1 _ rfl) (hs 5 _ rfl) ?_
   intro ab wv nn2 dd2 kp o25 H2
   refine wIn nn2 (dd2.trans dd) (Sat.cons (Sat.cons (Sat.cons (Sat.cons (Sat.cons (Sat.cons (sat_nil ab) ((kp 14 rfl).trans (hs 14 _ rfl))) ((kp 10 rfl).trans (hs 10 _ rfl))) ((kp 5 rfl).trans (hs 5 _ rfl))) ((kp 1 rfl).trans (hs 1 _ rfl))) ((kp 0 rfl).trans (hs 0 _ rfl))) o25) H2 ?_
   clear hs H kp H2 dd dd2 nn nn2 o25
   refine tN (wKK hK9 ?_)
   refine wCf rfl ?_
   refine wSk ?_
   refine bN (tN (wKK hK8 ?_))
   refine wReg ?_
   iterate 2 refine p_callsT rfl ?_
   refine wI 16 rfl (IntWalk.i64_in _ (by omega)) ?_
   refine p_callsT rfl ?_
   refine wN ?_
   refine tN ?_
   intro aa ww nn dd hs H
   refine ⟨⟨i + 1, (by omega), nn, dd, (sat_sub ⟨rfl, rfl, rfl, rfl, trivial⟩ hs), (Lib.hid (H.out.sub (by repeat (first | exact List.Sublist.refl _ | apply List.Sublist.cons₂ | apply List.Sublist.cons))))⟩, ?_⟩
   have m5 := hs 5 _ rfl
   simp only [mu1_5, m5, intOf]
   omega
 · skip
   have z1d : ¬ (i < xs.length) := of_decide_eq_false z1
   refine wEx ?_
   refine tX (tX (bX (tN (wKK hK4 ?_))))
   refine wSeqK fun KK10 hK10 => ?_
   refine wReg ?_
   refine p_callsT rfl ?_
   refine wN ?_
   refine tN (wKK hK10 ?_)
   refine wRet ?_
   exact wR1 rfl rfl (fun ww H => ⟨rfl, H.out.off⟩)
def tab_eqCallsT : Wk.Tab := []
theorem p_eqCallsT {ops : Array Oper} {rest : List Oper} {o : Oper} {w0 : World} {Q : Exit → Act → World → Prop} {S : List Nat} {R : List Res} {K K' : Wk.Env} {N : Nat} (h : Wk.stp tab_eqCallsT N ops K o = some K') (n : Wk.Wk N S w0 K' R (wpList Try.prog ops Q rest)) : Wk.Wk N S w0 K R (wpList Try.prog ops Q (o :: rest)) := Wk.wP (T := tab_eqCallsT) (by kernel_rfl) h n
set_option maxHeartbeats 4000000 in
set_option maxRecDepth 20000 in
theorem eqCallsT_r6 (c : Nat) (c2 : Nat) (xs : List CallV) (hx : xs.length ≤ 1000000) (i : Nat) (hi : i ≤ xs.length) (z1d : i < xs.length) (y1 : Addr) (y2 : Addr) (x : CallV) (HRx : Hid ((xs.map callRow)[i]? = some [.int .i64 x.id, .int .i64 x.kind, .int .i64 x.src, .int .i64 x.dst, .int .i64 x.car, .int .i64 x.state, .int .i64 x.owner, .int .i64 x.born])) {wa wb : World} (H : Hid (Hp [] wa wb [rS (some y2) c2 8 (xs.map callRow), rS (some y1) c 8 (xs.map callRow)])) (ac0 : Act) (hz : ac0.tmps.size = 26) (so0 : ac0.eval (.tmp 0) = .slice (some y1) xs.length c) (so1 : ac0.eval (.tmp 1) = .slice (some y2) xs.length c2) (so5 : ac0.eval (.tmp 5) = .int .i64 i) {QR : Exit → Act → World → Prop} (hfin : ∀ (ac1 : Act) (wz : World), ac1.tmps.size = 26 → ac1.defers = ac0.defers → (∀ t, ([16, 17, 18, 19, 20, 21, 22, 23, 24] : List Nat).contains t = false → ac1.eval (.tmp t) = ac0.eval (.tmp t)) → ac1.eval (.tmp 24) = .bool false →  Hid (Hp [] wa wz [rS (some y2) c2 8 (xs.map callRow), rS (some y1) c 8 (xs.map callRow)]) → QR .normal ac1 wz) : (regAt Try.f52 6).wp Try.prog QR ac0 wb := by
  refine wp_region_st mixedP ⟨[0, 0, 1, 2, 0, 0, 1, 2, 3], by kernel_rfl⟩ [[], [], [0, 1], [0, 1, 2], [], [], [4, 5], [4, 5, 6], [0, 1, 2, 3, 4, 5, 6, 7]] (by kernel_rfl) (by kernel_rfl) 26 hz (by kernel_rfl) (fun (xx : Unit) jx => nth [.slice (some y1) xs.length c, .int .i64 i, .pointer (some (y1.add (i * 8))), .agg (xA x), .slice (some y2) xs.length c2, .int .i64 i, .pointer (some (y2.add (i * 8))), .agg (xA x), .bool false] jx) (fun (LL : Nat → Bool) (xx : Unit) ww => Hp [] wa ww [rS (some y2) c2 8 (xs.map callRow), rS (some y1) c 8 (xs.map callRow)]) () H.out.drew ?_ (steps_al ?_) ?_ ?_
  · exact fun _ _ _ _ _ h => h
  · refine al_cons ?_ (al_cons ?_ (al_cons ?_ (al_cons ?_ (al_cons ?_ (al_cons ?_ (al_cons ?_ (al_cons ?_ (al_cons ?_ (al_nil)))))))))
    · intro LL xx ac wc sg hst hwant QQ hgo
      exact op_val hwant hgo hst _ (exec_move rfl ((sg.free 0 (by kernel_rfl)).trans so0)) rfl
    · intro LL xx ac wc sg hst hwant QQ hgo
      exact op_val hwant hgo hst _ (exec_move rfl ((sg.free 5 (by kernel_rfl)).trans so5)) rfl
    · intro LL xx ac wc sg hst hwant QQ hgo
      have se16 : ac.eval (.tmp 16) = _ := (sg.slot 0 (sg.anc 0 rfl))
      have sg16 := gt_of se16
      have se17 : ac.eval (.tmp 17) = _ := (sg.slot 1 (sg.anc 1 rfl))
      have sg17 := gt_of se17
      (try simp only [nth] at se16 sg16 se17 sg17)
      exact op_val hwant hgo hst _ (by simp only [execOp, nth]; go_simp <;> omega) rfl
    · intro LL xx ac wc sg hst hwant QQ hgo
      have H := Lib.hid hst
      refine hpS_load tyapi_Call H (y := y1) rfl (sg.slot 2 (sg.anc 2 rfl)) hwant (by (repeat (first | exact List.Mem.head _ | apply List.Mem.tail))) HRx.out rfl ?_
      exact hgo _ () _ (fun _ _ => rfl) rfl hst
    · intro LL xx ac wc sg hst hwant QQ hgo
      exact op_val hwant hgo hst _ (exec_move rfl ((sg.free 1 (by kernel_rfl)).trans so1)) rfl
    · intro LL xx ac wc sg hst hwant QQ hgo
      exact op_val hwant hgo hst _ (exec_move rfl ((sg.free 5 (by kernel_rfl)).trans so5)) rfl
    · intro LL xx ac wc sg hst hwant QQ hgo
      have se20 : ac.eval (.tmp 20) = _ := (sg.slot 4 (sg.anc 4 rfl))
      have sg20 := gt_of se20
      have se21 : ac.eval (.tmp 21) = _ := (sg.slot 5 (sg.anc 5 rfl))
      have sg21 := gt_of se21
      (try simp only [nth] at se20 sg20 se21 sg21)
      exact op_val hwant hgo hst _ (by simp only [execOp, nth]; go_simp <;> omega) rfl
    · intro LL xx ac wc sg hst hwant QQ hgo
      have H := Lib.hid hst
      refine hpS_load tyapi_Call H (y := y2) rfl (sg.slot 6 (sg.anc 6 rfl)) hwant (by (repeat (first | exact List.Mem.head _ | apply List.Mem.tail))) HRx.out rfl ?_
      exact hgo _ () _ (fun _ _ => rfl) rfl hst
    · intro LL xx ac wc sg hst hwant QQ hgo
      exact op_val hwant hgo hst (.bool (!true)) (exec_neq rfl (sg.slot 3 (sg.anc 3 rfl)) (sg.slot 7 (sg.anc 7 rfl)) (by kernel_rfl) (run_eq_call_same x wc)) (congrArg Value.bool (by simp))
  · exact skips [] (by kernel_rfl) (fun _ h => by cases h)
  · intro xx ac1 wz hfr hsl hst
    exact hfin ac1 wz (hfr.size.trans hz) hfr.defers (fr_keep hfr [16, 17, 18, 19, 20, 21, 22, 23, 24] (by kernel_rfl)) (hsl 8 (by decide)) (Lib.hid hst)
set_option maxHeartbeats 16000000 in
set_option maxRecDepth 20000 in
theorem eqCallsT (a : Option Addr) (c : Nat) (a2 : Option Addr) (c2 : Nat) (xs : List CallV) (w : World) (h1 : (rS a c 8 (xs.map callRow)).holds w) (h2 : (rS a2 c2 8 (xs.map callRow)).holds w) (hx : xs.length ≤ 1000000) : Calls Try.prog 52 #[.slice a xs.length c, .slice a2 xs.length c2] w fun e w' => e = .returned (.bool true) ∧ Off [] w w' := by
 have H := Lib.hid (Hp.start [] w)
 have H := hp_old H h1 (by decide)
 have H := hp_old H h2 (by decide)
 clear h1 h2
 refine wStart (args := [.slice a xs.length c, .slice a2 xs.length c2]) Try.func52 rfl rfl rfl H ?_
 clear H
 show Wk 26 _ _ [(0, .slice a xs.length c), (1, .slice a2 xs.length c2)] _ _
 refine wSeqK fun KK1 hK1 => ?_
 refine wReg ?_
 refine p_eqCallsT rfl ?_
 refine wN ?_
 refine tN (wKK hK1 ?_)
 refine wSeqK fun KK2 hK2 => ?_
 refine wSeqK fun KK3 hK3 => ?_
 refine wReg ?_
 refine p_eqCallsT rfl ?_
 refine wE (.int .i64 xs.length) rfl rfl rfl (fun aa ww hs _ => by have e6 := hs 6 _ rfl; have g6 := gt_of e6; simp only [execOp]; go_simp <;> first | rfl | omega) ?_
 refine p_eqCallsT rfl ?_
 refine wE (.int .i64 xs.length) rfl rfl rfl (fun aa ww hs _ => by have e8 := hs 8 _ rfl; have g8 := gt_of e8; simp only [execOp]; go_simp <;> first | rfl | omega) ?_
 refine p_eqCallsT rfl ?_
 refine wB (c := false) 10 rfl (by simp) ?_
 refine wN ?_
 refine tN (wKK hK3 ?_)
 refine wCf rfl ?_
 refine wSk ?_
 refine tN (wKK hK2 ?_)
 refine wSeqK fun KK4 hK4 => ?_
 refine wSeqK fun KK5 hK5 => ?_
 refine wReg ?_
 refine p_eqCallsT rfl ?_
 refine wE (.int .i64 xs.length) rfl rfl rfl (fun aa ww hs _ => by have e11 := hs 11 _ rfl; have g11 := gt_of e11; simp only [execOp]; go_simp <;> first | rfl | omega) ?_
 refine p_eqCallsT rfl ?_
 refine wN ?_
 refine tN (wKK hK5 ?_)
 refine wBlk ?_
 refine wLoop (fun ab wv => ∃ i : Nat, (i ≤ xs.length) ∧ ab.tmps.size = 26 ∧ ab.defers = [] ∧ Sat [(0, .slice a xs.length c), (1, .slice a2 xs.length c2), (10, .bool false), (12, .int .i64 xs.length), (13, .int .i64 i)] ab ∧ Hid (Hp [] w wv [rS a2 c2 8 (xs.map callRow), rS a c 8 (xs.map callRow)])) (fun ab _ => xs.length - (intOf (ab.eval (.tmp 13))).toNat) (fun aa ww nn dd hs H => ⟨0, (Nat.zero_le _), nn, dd, (sat_sub ⟨rfl, rfl, rfl, rfl, rfl, trivial⟩ hs), H⟩) ?_
 rintro a1 wv ⟨i, hi, nn, dd, hs, H⟩
 have mu1_13 := hs 13 _ rfl
 refine wIn nn dd hs H ?_
 clear nn dd hs H
 refine wSeqK fun KK6 hK6 => ?_
 refine wReg ?_
 refine p_eqCallsT rfl ?_
 refine wB (c := decide (i < xs.length)) 14 rfl (by simp) ?_
 refine wN ?_
 refine tN (wKK hK6 ?_)
 refine wSeqK fun KK7 hK7 => ?_
 refine wCond (E := decide (i < xs.length)) rfl (fun z1 => ?_) (fun z1 => ?_)
 · skip
   have z1d : i < xs.length := of_decide_eq_true z1
   intro aa ww nn dd hs H
   obtain ⟨y1, rfl⟩ := some_of_row (i := i) (hp_held H (show rS a _ 8 (xs.map callRow) ∈ _ by (repeat (first | exact List.Mem.head _ | apply List.Mem.tail)))) (by simp; omega)
   obtain ⟨y2, rfl⟩ := some_of_row (i := i) (hp_held H (show rS a2 _ 8 (xs.map callRow) ∈ _ by (repeat (first | exact List.Mem.head _ | apply List.Mem.tail)))) (by simp; omega)
   obtain ⟨x, hx⟩ : ∃ x, xs[i]? = some x := ⟨xs[i], List.getElem?_eq_getElem (by omega)⟩
   have HRx := Lib.hid (show (xs.map callRow)[i]? = some [.int .i64 x.id, .int .i64 x.kind, .int .i64 x.src, .int .i64 x.dst, .int .i64 x.car, .int .i64 x.state, .int .i64 x.owner, .int .i64 x.born] by rw [List.getElem?_map, hx]; rfl)
   clear hx
   refine wIn nn dd hs H ?_
   refine wSk ?_
   refine tN (wKK hK7 ?_)
   refine wSeqK fun KK8 hK8 => ?_
   refine wBlk ?_
   refine wSeqK fun KK9 hK9 => ?_
   refine wReg ?_
   iterate 2 refine p_eqCallsT rfl ?_
   refine wN ?_
   refine tN (wKK hK9 ?_)
   refine wSeqK fun KK10 hK10 => ?_
   intro aa ww nn dd hs H
   refine eqCallsT_r6 c c2 xs hx i hi z1d y1 y2 x HRx H aa nn (hs 0 _ rfl) (hs 1 _ rfl) (hs 5 _ rfl) ?_
   intro ab wv nn2 dd2 kp o24 H2
   refine wIn nn2 (dd2.trans dd) (Sat.cons (Sat.cons (Sat.cons (Sat.cons (Sat.cons (Sat.cons (Sat.cons (Sat.cons (sat_nil ab) ((kp 14 rfl).trans (hs 14 _ rfl))) ((kp 13 rfl).trans (hs 13 _ rfl))) ((kp 12 rfl).trans (hs 12 _ rfl))) ((kp 10 rfl).trans (hs 10 _ rfl))) ((kp 5 rfl).trans (hs 5 _ rfl))) ((kp 1 rfl).trans (hs 1 _ rfl))) ((kp 0 rfl).trans (hs 0 _ rfl))) o24) H2 ?_
   clear hs H kp H2 dd dd2 nn nn2 o24
   refine tN (wKK hK10 ?_)
   refine wCf rfl ?_
   refine wSk ?_
   refine bN (tN (wKK hK8 ?_))
   refine wReg ?_
   refine p_eqCallsT rfl ?_
   refine wI 25 rfl (IntWalk.i64_in _ (by omega)) ?_
   refine p_eqCallsT rfl ?_
   refine wN ?_
   refine tN ?_
   intro aa ww nn dd hs H
   refine ⟨⟨i + 1, (by omega), nn, dd, (sat_sub ⟨rfl, rfl, rfl, rfl, rfl, trivial⟩ hs), (Lib.hid (H.out.sub (by repeat (first | exact List.Sublist.refl _ | apply List.Sublist.cons₂ | apply List.Sublist.cons))))⟩, ?_⟩
   have m13 := hs 13 _ rfl
   simp only [mu1_13, m13, intOf]
   omega
 · skip
   have z1d : ¬ (i < xs.length) := of_decide_eq_false z1
   refine wEx ?_
   refine tX (tX (bX (tN (wKK hK4 ?_))))
   refine wSeqK fun KK11 hK11 => ?_
   refine wReg ?_
   refine p_eqCallsT rfl ?_
   refine wN ?_
   refine tN (wKK hK11 ?_)
   refine wRet ?_
   exact wR1 rfl rfl (fun ww H => ⟨rfl, H.out.off⟩)
def tab_eqPairsT : Wk.Tab := []
theorem p_eqPairsT {ops : Array Oper} {rest : List Oper} {o : Oper} {w0 : World} {Q : Exit → Act → World → Prop} {S : List Nat} {R : List Res} {K K' : Wk.Env} {N : Nat} (h : Wk.stp tab_eqPairsT N ops K o = some K') (n : Wk.Wk N S w0 K' R (wpList Try.prog ops Q rest)) : Wk.Wk N S w0 K R (wpList Try.prog ops Q (o :: rest)) := Wk.wP (T := tab_eqPairsT) (by kernel_rfl) h n
set_option maxHeartbeats 4000000 in
set_option maxRecDepth 20000 in
theorem eqPairsT_r6 (c : Nat) (c2 : Nat) (xs : List PairV) (hx : xs.length ≤ 1000000) (i : Nat) (hi : i ≤ xs.length) (z1d : i < xs.length) (y1 : Addr) (y2 : Addr) (x : PairV) (HRx : Hid ((xs.map rowOf)[i]? = some [.int .i64 x.1, .int .i64 x.2.id, .int .i64 x.2.kind, .int .i64 x.2.src, .int .i64 x.2.dst, .int .i64 x.2.car, .int .i64 x.2.state, .int .i64 x.2.owner, .int .i64 x.2.born])) {wa wb : World} (H : Hid (Hp [] wa wb [rS (some y2) c2 9 (xs.map rowOf), rS (some y1) c 9 (xs.map rowOf)])) (ac0 : Act) (hz : ac0.tmps.size = 26) (so0 : ac0.eval (.tmp 0) = .slice (some y1) xs.length c) (so1 : ac0.eval (.tmp 1) = .slice (some y2) xs.length c2) (so5 : ac0.eval (.tmp 5) = .int .i64 i) {QR : Exit → Act → World → Prop} (hfin : ∀ (ac1 : Act) (wz : World), ac1.tmps.size = 26 → ac1.defers = ac0.defers → (∀ t, ([16, 17, 18, 19, 20, 21, 22, 23, 24] : List Nat).contains t = false → ac1.eval (.tmp t) = ac0.eval (.tmp t)) → ac1.eval (.tmp 24) = .bool false →  Hid (Hp [] wa wz [rS (some y2) c2 9 (xs.map rowOf), rS (some y1) c 9 (xs.map rowOf)]) → QR .normal ac1 wz) : (regAt Try.f74 6).wp Try.prog QR ac0 wb := by
  refine wp_region_st mixedP ⟨[0, 0, 1, 2, 0, 0, 1, 2, 3], by kernel_rfl⟩ [[], [], [0, 1], [0, 1, 2], [], [], [4, 5], [4, 5, 6], [0, 1, 2, 3, 4, 5, 6, 7]] (by kernel_rfl) (by kernel_rfl) 26 hz (by kernel_rfl) (fun (xx : Unit) jx => nth [.slice (some y1) xs.length c, .int .i64 i, .pointer (some (y1.add (i * 9))), .agg #[.int .i64 x.1, .int .i64 x.2.id, .int .i64 x.2.kind, .int .i64 x.2.src, .int .i64 x.2.dst, .int .i64 x.2.car, .int .i64 x.2.state, .int .i64 x.2.owner, .int .i64 x.2.born], .slice (some y2) xs.length c2, .int .i64 i, .pointer (some (y2.add (i * 9))), .agg #[.int .i64 x.1, .int .i64 x.2.id, .int .i64 x.2.kind, .int .i64 x.2.src, .int .i64 x.2.dst, .int .i64 x.2.car, .int .i64 x.2.state, .int .i64 x.2.owner, .int .i64 x.2.born], .bool false] jx) (fun (LL : Nat → Bool) (xx : Unit) ww => Hp [] wa ww [rS (some y2) c2 9 (xs.map rowOf), rS (some y1) c 9 (xs.map rowOf)]) () H.out.drew ?_ (steps_al ?_) ?_ ?_
  · exact fun _ _ _ _ _ h => h
  · refine al_cons ?_ (al_cons ?_ (al_cons ?_ (al_cons ?_ (al_cons ?_ (al_cons ?_ (al_cons ?_ (al_cons ?_ (al_cons ?_ (al_nil)))))))))
    · intro LL xx ac wc sg hst hwant QQ hgo
      exact op_val hwant hgo hst _ (exec_move rfl ((sg.free 0 (by kernel_rfl)).trans so0)) rfl
    · intro LL xx ac wc sg hst hwant QQ hgo
      exact op_val hwant hgo hst _ (exec_move rfl ((sg.free 5 (by kernel_rfl)).trans so5)) rfl
    · intro LL xx ac wc sg hst hwant QQ hgo
      have se16 : ac.eval (.tmp 16) = _ := (sg.slot 0 (sg.anc 0 rfl))
      have sg16 := gt_of se16
      have se17 : ac.eval (.tmp 17) = _ := (sg.slot 1 (sg.anc 1 rfl))
      have sg17 := gt_of se17
      (try simp only [nth] at se16 sg16 se17 sg17)
      exact op_val hwant hgo hst _ (by simp only [execOp, nth]; go_simp <;> omega) rfl
    · intro LL xx ac wc sg hst hwant QQ hgo
      have H := Lib.hid hst
      refine hpS_load tyshelf_Pair_int__api_Call_ H (y := y1) rfl (sg.slot 2 (sg.anc 2 rfl)) hwant (by (repeat (first | exact List.Mem.head _ | apply List.Mem.tail))) HRx.out rfl ?_
      exact hgo _ () _ (fun _ _ => rfl) rfl hst
    · intro LL xx ac wc sg hst hwant QQ hgo
      exact op_val hwant hgo hst _ (exec_move rfl ((sg.free 1 (by kernel_rfl)).trans so1)) rfl
    · intro LL xx ac wc sg hst hwant QQ hgo
      exact op_val hwant hgo hst _ (exec_move rfl ((sg.free 5 (by kernel_rfl)).trans so5)) rfl
    · intro LL xx ac wc sg hst hwant QQ hgo
      have se20 : ac.eval (.tmp 20) = _ := (sg.slot 4 (sg.anc 4 rfl))
      have sg20 := gt_of se20
      have se21 : ac.eval (.tmp 21) = _ := (sg.slot 5 (sg.anc 5 rfl))
      have sg21 := gt_of se21
      (try simp only [nth] at se20 sg20 se21 sg21)
      exact op_val hwant hgo hst _ (by simp only [execOp, nth]; go_simp <;> omega) rfl
    · intro LL xx ac wc sg hst hwant QQ hgo
      have H := Lib.hid hst
      refine hpS_load tyshelf_Pair_int__api_Call_ H (y := y2) rfl (sg.slot 6 (sg.anc 6 rfl)) hwant (by (repeat (first | exact List.Mem.head _ | apply List.Mem.tail))) HRx.out rfl ?_
      exact hgo _ () _ (fun _ _ => rfl) rfl hst
    · intro LL xx ac wc sg hst hwant QQ hgo
      exact op_val hwant hgo hst (.bool (!true)) (exec_neq rfl (sg.slot 3 (sg.anc 3 rfl)) (sg.slot 7 (sg.anc 7 rfl)) (by kernel_rfl) (run_eq_pair_same x wc)) (congrArg Value.bool (by simp))
  · exact skips [] (by kernel_rfl) (fun _ h => by cases h)
  · intro xx ac1 wz hfr hsl hst
    exact hfin ac1 wz (hfr.size.trans hz) hfr.defers (fr_keep hfr [16, 17, 18, 19, 20, 21, 22, 23, 24] (by kernel_rfl)) (hsl 8 (by decide)) (Lib.hid hst)
set_option maxHeartbeats 16000000 in
set_option maxRecDepth 20000 in
theorem eqPairsT (a : Option Addr) (c : Nat) (a2 : Option Addr) (c2 : Nat) (xs : List PairV) (w : World) (h1 : (rS a c 9 (xs.map rowOf)).holds w) (h2 : (rS a2 c2 9 (xs.map rowOf)).holds w) (hx : xs.length ≤ 1000000) : Calls Try.prog 74 #[.slice a xs.length c, .slice a2 xs.length c2] w fun e w' => e = .returned (.bool true) ∧ Off [] w w' := by
 have H := Lib.hid (Hp.start [] w)
 have H := hp_old H h1 (by decide)
 have H := hp_old H h2 (by decide)
 clear h1 h2
 refine wStart (args := [.slice a xs.length c, .slice a2 xs.length c2]) Try.func74 rfl rfl rfl H ?_
 clear H
 show Wk 26 _ _ [(0, .slice a xs.length c), (1, .slice a2 xs.length c2)] _ _
 refine wSeqK fun KK1 hK1 => ?_
 refine wReg ?_
 refine p_eqPairsT rfl ?_
 refine wN ?_
 refine tN (wKK hK1 ?_)
 refine wSeqK fun KK2 hK2 => ?_
 refine wSeqK fun KK3 hK3 => ?_
 refine wReg ?_
 refine p_eqPairsT rfl ?_
 refine wE (.int .i64 xs.length) rfl rfl rfl (fun aa ww hs _ => by have e6 := hs 6 _ rfl; have g6 := gt_of e6; simp only [execOp]; go_simp <;> first | rfl | omega) ?_
 refine p_eqPairsT rfl ?_
 refine wE (.int .i64 xs.length) rfl rfl rfl (fun aa ww hs _ => by have e8 := hs 8 _ rfl; have g8 := gt_of e8; simp only [execOp]; go_simp <;> first | rfl | omega) ?_
 refine p_eqPairsT rfl ?_
 refine wB (c := false) 10 rfl (by simp) ?_
 refine wN ?_
 refine tN (wKK hK3 ?_)
 refine wCf rfl ?_
 refine wSk ?_
 refine tN (wKK hK2 ?_)
 refine wSeqK fun KK4 hK4 => ?_
 refine wSeqK fun KK5 hK5 => ?_
 refine wReg ?_
 refine p_eqPairsT rfl ?_
 refine wE (.int .i64 xs.length) rfl rfl rfl (fun aa ww hs _ => by have e11 := hs 11 _ rfl; have g11 := gt_of e11; simp only [execOp]; go_simp <;> first | rfl | omega) ?_
 refine p_eqPairsT rfl ?_
 refine wN ?_
 refine tN (wKK hK5 ?_)
 refine wBlk ?_
 refine wLoop (fun ab wv => ∃ i : Nat, (i ≤ xs.length) ∧ ab.tmps.size = 26 ∧ ab.defers = [] ∧ Sat [(0, .slice a xs.length c), (1, .slice a2 xs.length c2), (10, .bool false), (12, .int .i64 xs.length), (13, .int .i64 i)] ab ∧ Hid (Hp [] w wv [rS a2 c2 9 (xs.map rowOf), rS a c 9 (xs.map rowOf)])) (fun ab _ => xs.length - (intOf (ab.eval (.tmp 13))).toNat) (fun aa ww nn dd hs H => ⟨0, (Nat.zero_le _), nn, dd, (sat_sub ⟨rfl, rfl, rfl, rfl, rfl, trivial⟩ hs), H⟩) ?_
 rintro a1 wv ⟨i, hi, nn, dd, hs, H⟩
 have mu1_13 := hs 13 _ rfl
 refine wIn nn dd hs H ?_
 clear nn dd hs H
 refine wSeqK fun KK6 hK6 => ?_
 refine wReg ?_
 refine p_eqPairsT rfl ?_
 refine wB (c := decide (i < xs.length)) 14 rfl (by simp) ?_
 refine wN ?_
 refine tN (wKK hK6 ?_)
 refine wSeqK fun KK7 hK7 => ?_
 refine wCond (E := decide (i < xs.length)) rfl (fun z1 => ?_) (fun z1 => ?_)
 · skip
   have z1d : i < xs.length := of_decide_eq_true z1
   intro aa ww nn dd hs H
   obtain ⟨y1, rfl⟩ := some_of_row (i := i) (hp_held H (show rS a _ 9 (xs.map rowOf) ∈ _ by (repeat (first | exact List.Mem.head _ | apply List.Mem.tail)))) (by simp; omega)
   obtain ⟨y2, rfl⟩ := some_of_row (i := i) (hp_held H (show rS a2 _ 9 (xs.map rowOf) ∈ _ by (repeat (first | exact List.Mem.head _ | apply List.Mem.tail)))) (by simp; omega)
   obtain ⟨x, hx⟩ : ∃ x, xs[i]? = some x := ⟨xs[i], List.getElem?_eq_getElem (by omega)⟩
   have HRx := Lib.hid (show (xs.map rowOf)[i]? = some [.int .i64 x.1, .int .i64 x.2.id, .int .i64 x.2.kind, .int .i64 x.2.src, .int .i64 x.2.dst, .int .i64 x.2.car, .int .i64 x.2.state, .int .i64 x.2.owner, .int .i64 x.2.born] by rw [List.getElem?_map, hx]; rfl)
   clear hx
   refine wIn nn dd hs H ?_
   refine wSk ?_
   refine tN (wKK hK7 ?_)
   refine wSeqK fun KK8 hK8 => ?_
   refine wBlk ?_
   refine wSeqK fun KK9 hK9 => ?_
   refine wReg ?_
   iterate 2 refine p_eqPairsT rfl ?_
   refine wN ?_
   refine tN (wKK hK9 ?_)
   refine wSeqK fun KK10 hK10 => ?_
   intro aa ww nn dd hs H
   refine eqPairsT_r6 c c2 xs hx i hi z1d y1 y2 x HRx H aa nn (hs 0 _ rfl) (hs 1 _ rfl) (hs 5 _ rfl) ?_
   intro ab wv nn2 dd2 kp o24 H2
   refine wIn nn2 (dd2.trans dd) (Sat.cons (Sat.cons (Sat.cons (Sat.cons (Sat.cons (Sat.cons (Sat.cons (Sat.cons (sat_nil ab) ((kp 14 rfl).trans (hs 14 _ rfl))) ((kp 13 rfl).trans (hs 13 _ rfl))) ((kp 12 rfl).trans (hs 12 _ rfl))) ((kp 10 rfl).trans (hs 10 _ rfl))) ((kp 5 rfl).trans (hs 5 _ rfl))) ((kp 1 rfl).trans (hs 1 _ rfl))) ((kp 0 rfl).trans (hs 0 _ rfl))) o24) H2 ?_
   clear hs H kp H2 dd dd2 nn nn2 o24
   refine tN (wKK hK10 ?_)
   refine wCf rfl ?_
   refine wSk ?_
   refine bN (tN (wKK hK8 ?_))
   refine wReg ?_
   refine p_eqPairsT rfl ?_
   refine wI 25 rfl (IntWalk.i64_in _ (by omega)) ?_
   refine p_eqPairsT rfl ?_
   refine wN ?_
   refine tN ?_
   intro aa ww nn dd hs H
   refine ⟨⟨i + 1, (by omega), nn, dd, (sat_sub ⟨rfl, rfl, rfl, rfl, rfl, trivial⟩ hs), (Lib.hid (H.out.sub (by repeat (first | exact List.Sublist.refl _ | apply List.Sublist.cons₂ | apply List.Sublist.cons))))⟩, ?_⟩
   have m13 := hs 13 _ rfl
   simp only [mu1_13, m13, intOf]
   omega
 · skip
   have z1d : ¬ (i < xs.length) := of_decide_eq_false z1
   refine wEx ?_
   refine tX (tX (bX (tN (wKK hK4 ?_))))
   refine wSeqK fun KK11 hK11 => ?_
   refine wReg ?_
   refine p_eqPairsT rfl ?_
   refine wN ?_
   refine tN (wKK hK11 ?_)
   refine wRet ?_
   exact wR1 rfl rfl (fun ww H => ⟨rfl, H.out.off⟩)
def tab_eqShelfT : Wk.Tab := [(29, 0, 0), (29, 1, 1)]
theorem p_eqShelfT {ops : Array Oper} {rest : List Oper} {o : Oper} {w0 : World} {Q : Exit → Act → World → Prop} {S : List Nat} {R : List Res} {K K' : Wk.Env} {N : Nat} (h : Wk.stp tab_eqShelfT N ops K o = some K') (n : Wk.Wk N S w0 K' R (wpList Try.prog ops Q rest)) : Wk.Wk N S w0 K R (wpList Try.prog ops Q (o :: rest)) := Wk.wP (T := tab_eqShelfT) (by kernel_rfl) h n
set_option maxHeartbeats 16000000 in
set_option maxRecDepth 20000 in
theorem eqShelfT (r : Int) (a : Option Addr) (c : Nat) (a2 : Option Addr) (c2 : Nat) (ps : List PairV) (w : World) (h1 : (rS a c 9 (ps.map rowOf)).holds w) (h2 : (rS a2 c2 9 (ps.map rowOf)).holds w) (hx : ps.length ≤ 1000000) : Calls Try.prog 51 #[.agg #[.int .i64 r, .slice a ps.length c], .agg #[.int .i64 r, .slice a2 ps.length c2]] w fun e w' => e = .returned (.bool true) ∧ Off [] w w' := by
 have H := Lib.hid (Hp.start [] w)
 have H := hp_old H h1 (by decide)
 have H := hp_old H h2 (by decide)
 clear h1 h2
 refine wStart (args := [.agg #[.int .i64 r, .slice a ps.length c], .agg #[.int .i64 r, .slice a2 ps.length c2]]) Try.func51 rfl rfl rfl H ?_
 clear H
 show Wk 17 _ _ [(0, .agg #[.int .i64 r, .slice a ps.length c]), (1, .agg #[.int .i64 r, .slice a2 ps.length c2])] _ _
 refine wSeqK fun KK1 hK1 => ?_
 refine wReg ?_
 refine wBx rfl rfl rfl fun b2 => ?_
 refine wBx rfl rfl rfl fun b3 => ?_
 refine p_eqShelfT rfl ?_
 refine wN ?_
 refine tN (wKK hK1 ?_)
 refine wSeqK fun KK2 hK2 => ?_
 refine wReg ?_
 refine p_eqShelfT rfl ?_
 refine wLd rfl tyint 1 rfl rfl ?_
 refine p_eqShelfT rfl ?_
 refine wLd rfl tyint 0 rfl rfl ?_
 refine p_eqShelfT rfl ?_
 refine wB (c := true) 9 rfl (by simp) ?_
 iterate 2 refine p_eqShelfT rfl ?_
 refine wLd rfl tyS_shelf_Pair_int_api_Call_ 1 rfl rfl ?_
 refine p_eqShelfT rfl ?_
 refine wLd rfl tyS_shelf_Pair_int_api_Call_ 0 rfl rfl ?_
 refine wQ (l := [.slice a ps.length c, .slice a2 ps.length c2]) Try.func74 rfl (by kernel_rfl) (.bool true) (fun wc H => eqPairsT a c a2 c2 ps wc (hp_held H (by (repeat (first | exact List.Mem.head _ | apply List.Mem.tail)))) (hp_held H (by (repeat (first | exact List.Mem.head _ | apply List.Mem.tail)))) (by omega)) rfl rfl rfl rfl ?_
 iterate 2 refine p_eqShelfT rfl ?_
 refine wN ?_
 refine tN (wKK hK2 ?_)
 refine wRet ?_
 exact wR1 rfl rfl (fun ww H => ⟨rfl, H.out.off⟩)
def tab_sameT : Wk.Tab := [(33, 0, 0), (33, 1, 18), (33, 2, 19), (33, 3, 21), (33, 4, 22)]
theorem p_sameT {ops : Array Oper} {rest : List Oper} {o : Oper} {w0 : World} {Q : Exit → Act → World → Prop} {S : List Nat} {R : List Res} {K K' : Wk.Env} {N : Nat} (h : Wk.stp tab_sameT N ops K o = some K') (n : Wk.Wk N S w0 K' R (wpList Try.prog ops Q rest)) : Wk.Wk N S w0 K R (wpList Try.prog ops Q (o :: rest)) := Wk.wP (T := tab_sameT) (by kernel_rfl) h n
set_option maxHeartbeats 16000000 in
set_option maxRecDepth 20000 in
theorem sameT (b : BookV) (la : Option Addr) (lc : Nat) (da : Option Addr) (dc : Nat) (la2 : Option Addr) (lc2 : Nat) (da2 : Option Addr) (dc2 : Nat) (w : World) (h1 : (rS la lc 9 (b.live.map rowOf)).holds w) (h2 : (rS da dc 8 (b.done.map callRow)).holds w) (h3 : (rS la2 lc2 9 (b.live.map rowOf)).holds w) (h4 : (rS da2 dc2 8 (b.done.map callRow)).holds w) (hI : Hid (InvB b)) : Calls Try.prog 19 #[.agg (bkA b.conf b.index b.room (.slice la b.live.length lc) (.slice da b.done.length dc) b.modes), .agg (bkA b.conf b.index b.room (.slice la2 b.live.length lc2) (.slice da2 b.done.length dc2) b.modes)] w fun e w' => e = .returned (.bool true) ∧ Off [] w w' := by
 have H := Lib.hid (Hp.start [] w)
 have H := hp_old H h1 (by decide)
 have H := hp_old H h2 (by decide)
 have H := hp_old H h3 (by decide)
 have H := hp_old H h4 (by decide)
 clear h1 h2 h3 h4
 refine wStart (args := [.agg (bkA b.conf b.index b.room (.slice la b.live.length lc) (.slice da b.done.length dc) b.modes), .agg (bkA b.conf b.index b.room (.slice la2 b.live.length lc2) (.slice da2 b.done.length dc2) b.modes)]) Try.func19 rfl rfl rfl H ?_
 clear H
 show Wk 38 _ _ [(0, .agg (bkA b.conf b.index b.room (.slice la b.live.length lc) (.slice da b.done.length dc) b.modes)), (1, .agg (bkA b.conf b.index b.room (.slice la2 b.live.length lc2) (.slice da2 b.done.length dc2) b.modes))] _ _
 have hsm : b.live.length ≤ 64 ∧ b.done.length ≤ 64 ∧ b.conf.cars ≤ 4 := hI.out.small
 refine wSeqK fun KK1 hK1 => ?_
 refine wReg ?_
 refine wBx rfl rfl rfl fun b2 => ?_
 refine wBx rfl rfl rfl fun b3 => ?_
 refine p_sameT rfl ?_
 refine wN ?_
 refine tN (wKK hK1 ?_)
 refine wSeqK fun KK2 hK2 => ?_
 refine wReg ?_
 refine p_sameT rfl ?_
 refine wLr rfl tyapi_Config 1 rfl (cL b.conf) rfl rfl ?_
 refine p_sameT rfl ?_
 refine wLr rfl tyapi_Config 0 rfl (cL b.conf) rfl rfl ?_
 refine wE (.bool (true)) rfl rfl rfl (fun aa wc hs H => exec_eql rfl (hs _ _ rfl) (hs _ _ rfl) (by kernel_rfl) (run_eq_cfg_same b.conf wc)) ?_
 iterate 2 refine p_sameT rfl ?_
 refine wLd rfl tyint 1 rfl rfl ?_
 refine p_sameT rfl ?_
 refine wLd rfl tyint 0 rfl rfl ?_
 refine p_sameT rfl ?_
 refine wB (c := true) 15 rfl (by simp) ?_
 iterate 3 refine p_sameT rfl ?_
 refine wLr rfl ty_4_int 1 rfl [.int .i64 (b.modes.getD 0 0), .int .i64 (b.modes.getD 1 0), .int .i64 (b.modes.getD 2 0), .int .i64 (b.modes.getD 3 0)] rfl rfl ?_
 refine p_sameT rfl ?_
 refine wLr rfl ty_4_int 0 rfl [.int .i64 (b.modes.getD 0 0), .int .i64 (b.modes.getD 1 0), .int .i64 (b.modes.getD 2 0), .int .i64 (b.modes.getD 3 0)] rfl rfl ?_
 refine wE (.bool (true)) rfl rfl rfl (fun aa wc hs H => exec_eql rfl (hs _ _ rfl) (hs _ _ rfl) (by kernel_rfl) (run_eq4 b.modes wc)) ?_
 iterate 3 refine p_sameT rfl ?_
 refine wLr rfl tyshelf_Shelf_int__api_Call_ 1 rfl [.int .i64 b.room, .slice la b.live.length lc] rfl rfl ?_
 refine p_sameT rfl ?_
 refine wLr rfl tyshelf_Shelf_int__api_Call_ 0 rfl [.int .i64 b.room, .slice la2 b.live.length lc2] rfl rfl ?_
 refine wQ (l := [.agg #[.int .i64 b.room, .slice la b.live.length lc], .agg #[.int .i64 b.room, .slice la2 b.live.length lc2]]) Try.func51 rfl (by kernel_rfl) (.bool true) (fun wc H => eqShelfT b.room la lc la2 lc2 b.live wc (hp_held H (by (repeat (first | exact List.Mem.head _ | apply List.Mem.tail)))) (hp_held H (by (repeat (first | exact List.Mem.head _ | apply List.Mem.tail)))) (by omega)) rfl rfl rfl rfl ?_
 iterate 3 refine p_sameT rfl ?_
 refine wLd rfl tyS_api_Call 1 rfl rfl ?_
 refine p_sameT rfl ?_
 refine wLd rfl tyS_api_Call 0 rfl rfl ?_
 refine wQ (l := [.slice da b.done.length dc, .slice da2 b.done.length dc2]) Try.func52 rfl (by kernel_rfl) (.bool true) (fun wc H => eqCallsT da dc da2 dc2 b.done wc (hp_held H (by (repeat (first | exact List.Mem.head _ | apply List.Mem.tail)))) (hp_held H (by (repeat (first | exact List.Mem.head _ | apply List.Mem.tail)))) (by omega)) rfl rfl rfl rfl ?_
 iterate 2 refine p_sameT rfl ?_
 refine wN ?_
 refine tN (wKK hK2 ?_)
 refine wRet ?_
 exact wR1 rfl rfl (fun ww H => ⟨rfl, H.out.off⟩)
theorem mode_all {b : BookV} (h : InvB b) {k : Nat} (hk : k < 4) : modeV b ((k : Int) + 1) = b.modes.getD k 0 := by
  unfold modeV
  cases hc : carV b.conf ((k : Int) + 1) with
  | true =>
    simp only [cond_true]
    rw [show ((k : Int) + 1 - 1).toNat = k by omega]
  | false =>
    simp only [cond_false]
    rcases h.room with rfl | ⟨h1, _⟩
    · have : k = 0 ∨ k = 1 ∨ k = 2 ∨ k = 3 := by omega
      rcases this with rfl | rfl | rfl | rfl <;> rfl
    · refine (h.mode k hk ?_).symm
      rw [carV_is h1] at hc
      simp at hc
      omega
theorem mode_no {b : BookV} (h : InvB b) {n : Int} (hn : n < 1 ∨ 4 < n) : modeV b n = 0 := by
  unfold modeV
  have := h.small
  cases hc : carV b.conf n with
  | false => rfl
  | true =>
    unfold carV at hc
    simp at hc
    omega
def smallV : Cfg := ⟨5, 1, 2, 4, 2, 4, 20, 100, 10, 1000, 2, 4, 4, 2, 0, 1, 1, 7⟩
set_option maxHeartbeats 16000000 in
set_option maxRecDepth 20000 in
theorem smallC  (w : World) : Calls Try.prog 40 #[] w fun e w' => e = .returned (.agg (cA smallV)) ∧ Off [] w w' := by
 have H := Lib.hid (Hp.start [] w)
 refine wStart (args := []) Try.func40 rfl rfl rfl H ?_
 clear H
 show Wk 2 _ _ [] _ _
 refine wSeqK fun KK1 hK1 => ?_
 refine wReg ?_
 refine wAl rfl rfl tyapi_Config fun b0 => ?_
 refine wN ?_
 refine tN (wKK hK1 ?_)
 refine wSeqK fun KK2 hK2 => ?_
 refine wReg ?_
 refine wE (.agg #[.int .i64 5, .int .i64 1, .int .i64 2, .int .i64 4, .int .i64 2, .int .i64 4, .int .i64 20, .int .i64 100, .int .i64 10, .int .i64 1000, .int .i64 2, .int .i64 4, .int .i64 4, .int .i64 2, .int .i64 0, .int .i64 1, .int .i64 1, .int .u32 7]) rfl rfl rfl (fun aa ww hs _ => by simp only [execOp]; go_simp <;> first | rfl | omega) ?_
 refine wSr rfl tyapi_Config 0 rfl rfl rfl rfl [.int .i64 5, .int .i64 1, .int .i64 2, .int .i64 4, .int .i64 2, .int .i64 4, .int .i64 20, .int .i64 100, .int .i64 10, .int .i64 1000, .int .i64 2, .int .i64 4, .int .i64 4, .int .i64 2, .int .i64 0, .int .i64 1, .int .i64 1, .int .u32 7] (by first | rfl | (simp only [spl]; rfl)) ?_
 refine wN ?_
 refine tN (wKK hK2 ?_)
 refine wRet ?_
 exact wRc tyapi_Config rfl rfl 0 rfl rfl (fun ww H => ⟨rfl, H.out.off⟩)
def k1 : BookV × ChgV × Int := placeV (newB smallV) (⟨0, 1, 2, 0, 0, 0, 0, 0⟩ : CallV) 7 3
def k2 : BookV × ChgV × Int := cancelBV k1.1 1 8
def k3 : BookV × ChgV × Int := cancelBV k1.1 1 7
def k4 : BookV × Int := applyV (newB smallV) k1.2.1
theorem k1_inv : InvB k1.1 := (place_toR (inv_new smallV) (by decide) 7 3).2
theorem k3_inv : InvB k3.1 := (cancel_toR k1_inv 1 7).2
theorem k4_is : k4 = (k1.1, 0) := by rfl
end Go.Proofs.Ytnanihffljpdbaa.Bk
