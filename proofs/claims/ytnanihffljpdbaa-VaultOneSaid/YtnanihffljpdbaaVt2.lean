/- Layer 11: vault: what is read; Tick. -/
import Derived.Test.YtnanihffljpdbaaProg
import Derived.Below
import Derived.WalkKit
import Derived.KernelRfl
import Derived.RowKit3
import Derived.Deep.LoopGhost
import Derived.Deep.QuietTactic
import Derived.BigQuiet
import Derived.WideLaws
import Derived.Deep.DeepCutAuto
import Derived.Deep.CutBlock
import Derived.Lib.Hide
import Derived.Laws.BitsLemmas
import Derived.Laws.Bits64
import Derived.Laws.BitsAllLaws
import Derived.IntWalk
import Derived.Outline
import Derived.WalkSpells
import Derived.Test.YtnanihffljpdbaaGA
import Derived.Test.YtnanihffljpdbaaVt1
namespace Go.Proofs.Ytnanihffljpdbaa.Bk
open Go.RowKit Go.Proofs.Ytnanihffljpdbaa.Mem Go.Proofs.Ytnanihffljpdbaa.Reg Go.Proofs.Ytnanihffljpdbaa.Wk Go.Proofs.Ytnanihffljpdbaa.Si Go.Proofs.Ytnanihffljpdbaa.Ca Go.Proofs.Ytnanihffljpdbaa.Sc6 Go.Proofs.Ytnanihffljpdbaa.Vt
set_option linter.unusedVariables false
set_option linter.unusedSimpArgs false

theorem fresh3 {w : World} {v t : Nat} {cs : List Value} {a a' : Option Addr} {c c' k k' : Nat} {r r' : List (List Value)} (h1 : ∀ q ∈ (rS a c k r).foot, w.heap.size ≤ q) (h2 : ∀ q ∈ (rS a' c' k' r').foot, w.heap.size ≤ q) : ∀ z ∈ [rB v t cs, rS a c k r, rS a' c' k' r'], z.ro = true → ∀ q ∈ z.foot, w.heap.size ≤ q := fun z hz h0 => by
  rcases List.mem_cons.1 hz with rfl | hz
  · cases h0
  · rcases List.mem_cons.1 hz with rfl | hz
    · exact h1
    · rw [List.mem_singleton.1 hz]; exact h2
theorem exec_pnil_eql {P : Program} {o : Oper} {act : Act} {w : World} {p q : Operand} {t yt e : TypeId} {x : Addr} (ho : o.op = .binOp .eql t p q yt) (hp : act.eval p = .pointer (some x)) (hq : act.eval q = .pointer none) (hu : P.underlying t = some (.pointer e)) : (execOp act.eval o).run P w = .ok (.value (.bool false)) w := by
  have h1 : ∀ d, (Op.equalIn (d + 1) t (.pointer (some x)) (.pointer none)).run P w = .ok false w := fun d => by simp [Op.equalIn, run_underlying hu]
  have h2 : (binOp .eql t (.pointer (some x)) (.pointer none)).run P w = .ok (.bool false) w := by
    simp only [binOp]
    simp [Op.equal, Op.maxDepth, h1 9999]
  unfold execOp
  simp only [ho, hp, hq]
  rw [Sem.run_bind, Sem.run_bind]
  simp [eqGuard, h2]
theorem exec_pnilnil {P : Program} {o : Oper} {act : Act} {w : World} {p q : Operand} {t yt e : TypeId} (ho : o.op = .binOp .eql t p q yt) (hp : act.eval p = .pointer none) (hq : act.eval q = .pointer none) (hu : P.underlying t = some (.pointer e)) : (execOp act.eval o).run P w = .ok (.value (.bool true)) w := by
  have h1 : ∀ d, (Op.equalIn (d + 1) t (.pointer none) (.pointer none)).run P w = .ok true w := fun d => by simp [Op.equalIn, run_underlying hu]
  have h2 : (binOp .eql t (.pointer none) (.pointer none)).run P w = .ok (.bool true) w := by
    simp only [binOp]
    simp [Op.equal, Op.maxDepth, h1 9999]
  unfold execOp
  simp only [ho, hp, hq]
  rw [Sem.run_bind, Sem.run_bind]
  simp [eqGuard, h2]
section
variable {S : List Nat} {w0 w w' : World} {R : List Res}
theorem hp_oneV {b : Nat} {t : TypeId} {cs : List Value} (h : Blk w b cs.toArray t) : Hid (Hp [b] w w [rB b t cs]) := by
  refine Lib.hid ⟨Off.refl _ _, fun r hr => ?_, fun r hr k hk => ?_, fun r hr _ k hk => ?_, List.pairwise_singleton _ _⟩
  · rw [List.mem_singleton.1 hr]; exact h
  · rw [List.mem_singleton.1 hr] at hk; simp only [rB, List.mem_singleton] at hk; rw [hk]; exact h.lt
  · rw [List.mem_singleton.1 hr] at hk; exact .inl hk
theorem hp_turn {i b : Nat} {t : TypeId} {cs cs' : List Value} (H : Hid (Hp S w0 w R)) (hi : R[i]? = some (rB b t cs)) (hb : Blk w' b cs'.toArray t) (ho : Off [b] w w') : Hid (Hp S w0 w' (R.set i (rB b t cs'))) := by
  refine Lib.hid (H.out.step i hi _ ho (fun k hk => by simpa [rB] using hk) hb (fun k hk => ?_))
  simp only [rB, List.mem_singleton] at hk
  subst hk
  exact ⟨.inl (by simp [rB]), hb.lt⟩
theorem cloneDrop (ga : Option Addr) (gc : Nat) (ys : List ChgV) (k : Nat) (w : World) (h : (rS ga gc 11 (ys.map chgRow)).holds w) (hk : k ≤ ys.length) (hc : ys.length ≤ gc) (hb : ys.length ≤ 1000) :
    Calls Try.prog 63 #[.slice (cutA ga gc k 11) (ys.length - k) (gc - k)] w fun e w' => ∃ a' c', e = .returned (.slice a' (ys.drop k).length c') ∧ (rA a' c' 40 11 ((ys.drop k).map chgRow)).holds w' ∧ (∀ q ∈ footA a', w.heap.size ≤ q) ∧ Off [] w w' := by
  have h1 := cloneLog (cutA ga gc k 11) (gc - k) (ys.drop k) w (rS_drop h k hk hc) (by rw [List.length_drop]; omega)
  rw [show ys.length - k = (ys.drop k).length from (List.length_drop).symm]
  exact h1
end
def tab_readC : Wk.Tab := [(115, 0, 0)]
theorem p_readC {ops : Array Oper} {rest : List Oper} {o : Oper} {w0 : World} {Q : Exit → Act → World → Prop} {S : List Nat} {R : List Res} {K K' : Wk.Env} {N : Nat} (h : Wk.stp tab_readC N ops K o = some K') (n : Wk.Wk N S w0 K' R (wpList Try.prog ops Q rest)) : Wk.Wk N S w0 K R (wpList Try.prog ops Q (o :: rest)) := Wk.wP (T := tab_readC) (by kernel_rfl) h n
set_option maxHeartbeats 16000000 in
set_option maxRecDepth 20000 in
theorem readC (v : Nat) (b : BookV) (la : Option Addr) (lc : Nat) (da : Option Addr) (dc : Nat) (kc : Cfg) (kr : Int) (now : Int) (ga : Option Addr) (gc : Nat) (ys : List ChgV) (tr : Int) (stl : Int) (w : World) (hm : Blk w v (vtA b.conf b.index b.room (.slice la b.live.length lc) (.slice da b.done.length dc) b.modes kc kr now (.slice ga ys.length gc) tr stl) 115) : Calls Try.prog 34 #[.pointer (some ⟨v, 0, none⟩)] w fun e w' => e = .returned (.agg (snA b.conf b.index b.room (.slice la b.live.length lc) (.slice da b.done.length dc) b.modes kc kr now)) ∧ Off [] w w' := by
 have H := Lib.hid (Hp.start [] w)
 have H := hp_oldK H (cs := (vtL b.conf b.index b.room (.slice la b.live.length lc) (.slice da b.done.length dc) b.modes kc kr now (.slice ga ys.length gc) tr stl)) hm
 clear hm
 refine wStart (args := [.pointer (some ⟨v, 0, none⟩)]) Try.func34 rfl rfl rfl H ?_
 clear H
 show Wk 10 _ _ [(0, .pointer (some ⟨v, 0, none⟩))] _ _
 refine wSeqK fun KK1 hK1 => ?_
 refine wReg ?_
 refine wAl rfl rfl tyvault_Snap fun b2 => ?_
 refine wN ?_
 refine tN (wKK hK1 ?_)
 refine wSeqK fun KK2 hK2 => ?_
 refine wSeqK fun KK3 hK3 => ?_
 refine wReg ?_
 refine p_readC rfl ?_
 refine wE (.bool false) rfl rfl rfl (fun aa ww hs _ => by exact exec_pnil_eql rfl (hs _ _ rfl) rfl Try.underlying75) ?_
 refine wN ?_
 refine tN (wKK hK3 ?_)
 refine wCf rfl ?_
 refine wSk ?_
 refine tN (wKK hK2 ?_)
 refine wSeqK fun KK4 hK4 => ?_
 refine wReg ?_
 iterate 3 refine p_readC rfl ?_
 refine wKr rfl tyvault_Snap 1 rfl (snL b.conf b.index b.room (.slice la b.live.length lc) (.slice da b.done.length dc) b.modes kc kr now) rfl rfl ?_
 refine wSr rfl tyvault_Snap 0 rfl rfl rfl rfl (snL b.conf b.index b.room (.slice la b.live.length lc) (.slice da b.done.length dc) b.modes kc kr now) (by first | rfl | (simp only [spl]; rfl)) ?_
 refine wN ?_
 refine tN (wKK hK4 ?_)
 refine wRet ?_
 exact wRc tyvault_Snap rfl rfl 0 rfl rfl (fun ww H => ⟨rfl, H.out.off⟩)
def tab_keptC : Wk.Tab := [(115, 1, 47)]
theorem p_keptC {ops : Array Oper} {rest : List Oper} {o : Oper} {w0 : World} {Q : Exit → Act → World → Prop} {S : List Nat} {R : List Res} {K K' : Wk.Env} {N : Nat} (h : Wk.stp tab_keptC N ops K o = some K') (n : Wk.Wk N S w0 K' R (wpList Try.prog ops Q rest)) : Wk.Wk N S w0 K R (wpList Try.prog ops Q (o :: rest)) := Wk.wP (T := tab_keptC) (by kernel_rfl) h n
set_option maxHeartbeats 16000000 in
set_option maxRecDepth 20000 in
theorem keptC (v : Nat) (b : BookV) (la : Option Addr) (lc : Nat) (da : Option Addr) (dc : Nat) (kc : Cfg) (kr : Int) (now : Int) (ga : Option Addr) (gc : Nat) (ys : List ChgV) (tr : Int) (stl : Int) (w : World) (hm : Blk w v (vtA b.conf b.index b.room (.slice la b.live.length lc) (.slice da b.done.length dc) b.modes kc kr now (.slice ga ys.length gc) tr stl) 115) : Calls Try.prog 38 #[.pointer (some ⟨v, 0, none⟩)] w fun e w' => e = .returned (.int .i64 ys.length) ∧ Off [] w w' := by
 have H := Lib.hid (Hp.start [] w)
 have H := hp_oldK H (cs := (vtL b.conf b.index b.room (.slice la b.live.length lc) (.slice da b.done.length dc) b.modes kc kr now (.slice ga ys.length gc) tr stl)) hm
 clear hm
 refine wStart (args := [.pointer (some ⟨v, 0, none⟩)]) Try.func38 rfl rfl rfl H ?_
 clear H
 show Wk 10 _ _ [(0, .pointer (some ⟨v, 0, none⟩))] _ _
 refine wSeqK fun KK1 hK1 => ?_
 refine wReg ?_
 refine p_keptC rfl ?_
 refine wN ?_
 refine tN (wKK hK1 ?_)
 refine wSeqK fun KK2 hK2 => ?_
 refine wSeqK fun KK3 hK3 => ?_
 refine wReg ?_
 refine p_keptC rfl ?_
 refine wE (.bool false) rfl rfl rfl (fun aa ww hs _ => by exact exec_pnil_eql rfl (hs _ _ rfl) rfl Try.underlying75) ?_
 refine wN ?_
 refine tN (wKK hK3 ?_)
 refine wCf rfl ?_
 refine wSk ?_
 refine tN (wKK hK2 ?_)
 refine wSeqK fun KK4 hK4 => ?_
 refine wReg ?_
 iterate 3 refine p_keptC rfl ?_
 refine wKd rfl tyS_api_Change 0 rfl rfl ?_
 refine wE (.int .i64 ys.length) rfl rfl rfl (fun aa ww hs _ => by have e8 := hs 8 _ rfl; have g8 := gt_of e8; simp only [execOp]; go_simp <;> first | rfl | omega) ?_
 refine p_keptC rfl ?_
 refine wN ?_
 refine tN (wKK hK4 ?_)
 refine wRet ?_
 exact wR1 rfl rfl (fun ww H => ⟨rfl, H.out.off⟩)
def tab_triesC : Wk.Tab := []
theorem p_triesC {ops : Array Oper} {rest : List Oper} {o : Oper} {w0 : World} {Q : Exit → Act → World → Prop} {S : List Nat} {R : List Res} {K K' : Wk.Env} {N : Nat} (h : Wk.stp tab_triesC N ops K o = some K') (n : Wk.Wk N S w0 K' R (wpList Try.prog ops Q rest)) : Wk.Wk N S w0 K R (wpList Try.prog ops Q (o :: rest)) := Wk.wP (T := tab_triesC) (by kernel_rfl) h n
set_option maxRecDepth 20000 in
theorem triesC_r3 (v : Nat) (b : BookV) (la : Option Addr) (lc : Nat) (da : Option Addr) (dc : Nat) (kc : Cfg) (kr : Int) (now : Int) (ga : Option Addr) (gc : Nat) (ys : List ChgV) (tr : Int) (stl : Int) {wa wb : World} (H : Hid (Hp [] wa wb [rK v 115 (vtL b.conf b.index b.room (.slice la b.live.length lc) (.slice da b.done.length dc) b.modes kc kr now (.slice ga ys.length gc) tr stl)])) (ac0 : Act) (hz : ac0.tmps.size = 14) (so0 : ac0.eval (.tmp 0) = .pointer (some ⟨v, 0, none⟩)) {QR : Exit → Act → World → Prop} (hfin : ∀ (ac1 : Act) (wz : World), ac1.tmps.size = 14 → ac1.defers = ac0.defers → (∀ t, ([2, 3, 6, 7, 8, 9, 10, 11, 12, 13] : List Nat).contains t = false → ac1.eval (.tmp t) = ac0.eval (.tmp t)) → ac1.eval (.tmp 2) = .int .i64 tr → ac1.eval (.tmp 3) = .int .i64 stl →  Hid (Hp [] wa wz [rK v 115 (vtL b.conf b.index b.room (.slice la b.live.length lc) (.slice da b.done.length dc) b.modes kc kr now (.slice ga ys.length gc) tr stl)]) → QR .normal ac1 wz) : (regAt Try.f61 3).wp Try.prog QR ac0 wb := by
  refine wp_region_st mixedP ⟨[0, 1, 2, 3, 0, 1, 2, 3, 4, 5], by kernel_rfl⟩ [[], [0], [0, 1], [0, 1, 2], [], [4], [4, 5], [4, 5, 6], [0, 1, 2, 3], [0, 1, 2, 3, 4, 5, 6, 7, 8]] (by kernel_rfl) (by kernel_rfl) 14 hz (by kernel_rfl) (fun (xx : Unit) jx => nth [.pointer (some ⟨v, 0, none⟩), .pointer (some ⟨v, 0, none⟩), .pointer (some ⟨v, 48, none⟩), .int .i64 tr, .pointer (some ⟨v, 0, none⟩), .pointer (some ⟨v, 0, none⟩), .pointer (some ⟨v, 49, none⟩), .int .i64 stl, .int .i64 tr, .int .i64 stl] jx) (fun (LL : Nat → Bool) (xx : Unit) ww => Hp [] wa ww [rK v 115 (vtL b.conf b.index b.room (.slice la b.live.length lc) (.slice da b.done.length dc) b.modes kc kr now (.slice ga ys.length gc) tr stl)]) () H.out.drew ?_ (steps_al ?_) ?_ ?_
  · exact fun _ _ _ _ _ h => h
  · refine al_cons ?_ (al_cons ?_ (al_cons ?_ (al_cons ?_ (al_cons ?_ (al_cons ?_ (al_cons ?_ (al_cons ?_ (al_cons ?_ (al_cons ?_ (al_nil))))))))))
    · intro LL xx ac wc sg hst hwant QQ hgo
      exact op_val hwant hgo hst _ (exec_move rfl ((sg.free 0 (by kernel_rfl)).trans so0)) rfl
    · intro LL xx ac wc sg hst hwant QQ hgo
      have se6 : ac.eval (.tmp 6) = _ := (sg.slot 0 (sg.anc 0 rfl))
      have sg6 := gt_of se6
      (try simp only [nth] at se6 sg6)
      exact op_val hwant hgo hst _ (by simp only [execOp, nth]; go_simp <;> omega) rfl
    · intro LL xx ac wc sg hst hwant QQ hgo
      have se7 : ac.eval (.tmp 7) = _ := (sg.slot 1 (sg.anc 1 rfl))
      have sg7 := gt_of se7
      (try simp only [nth] at se7 sg7)
      exact op_val hwant hgo hst _ (by simp only [execOp, nth]; go_simp <;> omega) rfl
    · intro LL xx ac wc sg hst hwant QQ hgo
      have H := Lib.hid hst
      refine hpK_load1 tyint H rfl (sg.slot 2 (sg.anc 2 rfl)) hwant (by (repeat (first | exact List.Mem.head _ | apply List.Mem.tail))) (by rfl) ?_
      exact hgo _ () _ (fun _ _ => rfl) rfl hst
    · intro LL xx ac wc sg hst hwant QQ hgo
      exact op_val hwant hgo hst _ (exec_move rfl ((sg.free 0 (by kernel_rfl)).trans so0)) rfl
    · intro LL xx ac wc sg hst hwant QQ hgo
      have se10 : ac.eval (.tmp 10) = _ := (sg.slot 4 (sg.anc 4 rfl))
      have sg10 := gt_of se10
      (try simp only [nth] at se10 sg10)
      exact op_val hwant hgo hst _ (by simp only [execOp, nth]; go_simp <;> omega) rfl
    · intro LL xx ac wc sg hst hwant QQ hgo
      have se11 : ac.eval (.tmp 11) = _ := (sg.slot 5 (sg.anc 5 rfl))
      have sg11 := gt_of se11
      (try simp only [nth] at se11 sg11)
      exact op_val hwant hgo hst _ (by simp only [execOp, nth]; go_simp <;> omega) rfl
    · intro LL xx ac wc sg hst hwant QQ hgo
      have H := Lib.hid hst
      refine hpK_load1 tyint H rfl (sg.slot 6 (sg.anc 6 rfl)) hwant (by (repeat (first | exact List.Mem.head _ | apply List.Mem.tail))) (by rfl) ?_
      exact hgo _ () _ (fun _ _ => rfl) rfl hst
    · intro LL xx ac wc sg hst hwant QQ hgo
      exact op_val hwant hgo hst _ (exec_assign rfl (sg.slot 3 (sg.anc 3 rfl))) rfl
    · intro LL xx ac wc sg hst hwant QQ hgo
      exact op_val hwant hgo hst _ (exec_assign rfl (sg.slot 7 (sg.anc 7 rfl))) rfl
  · exact skips [] (by kernel_rfl) (fun _ h => by cases h)
  · intro xx ac1 wz hfr hsl hst
    exact hfin ac1 wz (hfr.size.trans hz) hfr.defers (fr_keep hfr [2, 3, 6, 7, 8, 9, 10, 11, 12, 13] (by kernel_rfl)) (hsl 8 (by decide)) (hsl 9 (by decide)) (Lib.hid hst)
set_option maxHeartbeats 16000000 in
set_option maxRecDepth 20000 in
theorem triesC (v : Nat) (b : BookV) (la : Option Addr) (lc : Nat) (da : Option Addr) (dc : Nat) (kc : Cfg) (kr : Int) (now : Int) (ga : Option Addr) (gc : Nat) (ys : List ChgV) (tr : Int) (stl : Int) (w : World) (hm : Blk w v (vtA b.conf b.index b.room (.slice la b.live.length lc) (.slice da b.done.length dc) b.modes kc kr now (.slice ga ys.length gc) tr stl) 115) : Calls Try.prog 61 #[.pointer (some ⟨v, 0, none⟩)] w fun e w' => e = .returned (.tuple #[.int .i64 tr, .int .i64 stl]) ∧ Off [] w w' := by
 have H := Lib.hid (Hp.start [] w)
 have H := hp_oldK H (cs := (vtL b.conf b.index b.room (.slice la b.live.length lc) (.slice da b.done.length dc) b.modes kc kr now (.slice ga ys.length gc) tr stl)) hm
 clear hm
 refine wStart (args := [.pointer (some ⟨v, 0, none⟩)]) Try.func61 rfl rfl rfl H ?_
 clear H
 show Wk 14 _ _ [(0, .pointer (some ⟨v, 0, none⟩))] _ _
 refine wSeqK fun KK1 hK1 => ?_
 refine wReg ?_
 iterate 2 refine p_triesC rfl ?_
 refine wN ?_
 refine tN (wKK hK1 ?_)
 refine wSeqK fun KK2 hK2 => ?_
 refine wSeqK fun KK3 hK3 => ?_
 refine wReg ?_
 refine p_triesC rfl ?_
 refine wE (.bool false) rfl rfl rfl (fun aa ww hs _ => by exact exec_pnil_eql rfl (hs _ _ rfl) rfl Try.underlying75) ?_
 refine wN ?_
 refine tN (wKK hK3 ?_)
 refine wCf rfl ?_
 refine wSk ?_
 refine tN (wKK hK2 ?_)
 refine wSeqK fun KK4 hK4 => ?_
 intro aa ww nn dd hs H
 refine triesC_r3 v b la lc da dc kc kr now ga gc ys tr stl H aa nn (hs 0 _ rfl) ?_
 intro ab wv nn2 dd2 kp o2 o3 H2
 refine wIn nn2 (dd2.trans dd) (Sat.cons (Sat.cons (Sat.cons (Sat.cons (sat_nil ab) ((kp 5 rfl).trans (hs 5 _ rfl))) ((kp 0 rfl).trans (hs 0 _ rfl))) o3) o2) H2 ?_
 clear hs H kp H2 dd dd2 nn nn2 o2 o3
 refine tN (wKK hK4 ?_)
 refine wRet ?_
 exact wR2 rfl rfl rfl (fun ww H => ⟨rfl, H.out.off⟩)
def tab_tickC : Wk.Tab := [(84, 2, 46), (115, 0, 0)]
theorem p_tickC {ops : Array Oper} {rest : List Oper} {o : Oper} {w0 : World} {Q : Exit → Act → World → Prop} {S : List Nat} {R : List Res} {K K' : Wk.Env} {N : Nat} (h : Wk.stp tab_tickC N ops K o = some K') (n : Wk.Wk N S w0 K' R (wpList Try.prog ops Q rest)) : Wk.Wk N S w0 K R (wpList Try.prog ops Q (o :: rest)) := Wk.wP (T := tab_tickC) (by kernel_rfl) h n
set_option maxHeartbeats 16000000 in
set_option maxRecDepth 20000 in
theorem tickC (v : Nat) (b : BookV) (la : Option Addr) (lc : Nat) (da : Option Addr) (dc : Nat) (kc : Cfg) (kr : Int) (now : Int) (ga : Option Addr) (gc : Nat) (ys : List ChgV) (tr : Int) (stl : Int) (w : World) (hm : Blk w v (vtA b.conf b.index b.room (.slice la b.live.length lc) (.slice da b.done.length dc) b.modes kc kr now (.slice ga ys.length gc) tr stl) 115) (hn : 0 ≤ now ∧ now < 1073741824) : Calls Try.prog 37 #[.pointer (some ⟨v, 0, none⟩)] w fun e w' => e = .returned (.bool true) ∧ Blk w' v (vtA b.conf b.index b.room (.slice la b.live.length lc) (.slice da b.done.length dc) b.modes kc kr (now + 1) (.slice ga ys.length gc) tr stl) 115 ∧ Off [v] w w' := by
 have H := Lib.hid (Hp.start [] w)
 have H := hp_oneV (cs := (vtL b.conf b.index b.room (.slice la b.live.length lc) (.slice da b.done.length dc) b.modes kc kr now (.slice ga ys.length gc) tr stl)) hm
 clear hm
 have hd1 : decide (1073741824 ≤ now) = false := decide_eq_false (by omega)
 refine wStart (args := [.pointer (some ⟨v, 0, none⟩)]) Try.func37 rfl rfl rfl H ?_
 clear H
 show Wk 22 _ _ [(0, .pointer (some ⟨v, 0, none⟩))] _ _
 refine wSeqK fun KK1 hK1 => ?_
 refine wReg ?_
 refine p_tickC rfl ?_
 refine wN ?_
 refine tN (wKK hK1 ?_)
 refine wSeqK fun KK2 hK2 => ?_
 refine wSeqK fun KK3 hK3 => ?_
 refine wReg ?_
 refine p_tickC rfl ?_
 refine wE (.bool false) rfl rfl rfl (fun aa ww hs _ => by exact exec_pnil_eql rfl (hs _ _ rfl) rfl Try.underlying75) ?_
 iterate 5 refine p_tickC rfl ?_
 refine wLd rfl tyint 0 rfl rfl ?_
 refine p_tickC rfl ?_
 refine wB 11 rfl hd1 ?_
 refine p_tickC rfl ?_
 refine wN ?_
 refine tN (wKK hK3 ?_)
 refine wCf rfl ?_
 refine wSk ?_
 refine tN (wKK hK2 ?_)
 refine wSeqK fun KK4 hK4 => ?_
 refine wReg ?_
 iterate 4 refine p_tickC rfl ?_
 refine wLd rfl tyint 0 rfl rfl ?_
 refine p_tickC rfl ?_
 refine wI 18 rfl (IntWalk.i64_in _ (by omega)) ?_
 iterate 3 refine p_tickC rfl ?_
 refine wSt rfl tyint 0 rfl rfl rfl rfl ?_
 refine wN ?_
 refine tN (wKK hK4 ?_)
 refine wSeqK fun KK5 hK5 => ?_
 refine wReg ?_
 refine p_tickC rfl ?_
 refine wN ?_
 refine tN (wKK hK5 ?_)
 refine wRet ?_
 exact wR1 rfl rfl (fun ww H => ⟨rfl, H.out.blk 0 rfl, H.out.off⟩)
def tab_atC : Wk.Tab := [(115, 1, 47)]
theorem p_atC {ops : Array Oper} {rest : List Oper} {o : Oper} {w0 : World} {Q : Exit → Act → World → Prop} {S : List Nat} {R : List Res} {K K' : Wk.Env} {N : Nat} (h : Wk.stp tab_atC N ops K o = some K') (n : Wk.Wk N S w0 K' R (wpList Try.prog ops Q rest)) : Wk.Wk N S w0 K R (wpList Try.prog ops Q (o :: rest)) := Wk.wP (T := tab_atC) (by kernel_rfl) h n
set_option maxHeartbeats 16000000 in
set_option maxRecDepth 20000 in
theorem atC (v : Nat) (b : BookV) (la : Option Addr) (lc : Nat) (da : Option Addr) (dc : Nat) (kc : Cfg) (kr : Int) (now : Int) (ga : Option Addr) (gc : Nat) (ys : List ChgV) (tr : Int) (stl : Int) (n : Int) (w : World) (hm : Blk w v (vtA b.conf b.index b.room (.slice la b.live.length lc) (.slice da b.done.length dc) b.modes kc kr now (.slice ga ys.length gc) tr stl) 115) (hg : (rS ga gc 11 (ys.map chgRow)).holds w) (hyl : ys.length ≤ 1000) : Calls Try.prog 64 #[.pointer (some ⟨v, 0, none⟩), .int .i64 n] w fun e w' => e = .returned (.int .i64 (atN ys n)) ∧ Off [] w w' := by
 have H := Lib.hid (Hp.start [] w)
 have H := hp_oldK H (cs := (vtL b.conf b.index b.room (.slice la b.live.length lc) (.slice da b.done.length dc) b.modes kc kr now (.slice ga ys.length gc) tr stl)) hm
 clear hm
 have H := hp_old H hg (by decide)
 clear hg
 have hal := at_le ys n
 refine wStart (args := [.pointer (some ⟨v, 0, none⟩), .int .i64 n]) Try.func64 rfl rfl rfl H ?_
 clear H
 show Wk 20 _ _ [(0, .pointer (some ⟨v, 0, none⟩)), (1, .int .i64 n)] _ _
 refine wSeqK fun KK1 hK1 => ?_
 refine wReg ?_
 refine wBx rfl rfl rfl fun b3 => ?_
 refine p_atC rfl ?_
 refine wN ?_
 refine tN (wKK hK1 ?_)
 refine wSeqK fun KK2 hK2 => ?_
 refine wReg ?_
 iterate 3 refine p_atC rfl ?_
 refine wKd rfl tyS_api_Change 2 rfl rfl ?_
 refine wE (.func (.func 82) #[] #[.pointer (some ⟨b3, 0, none⟩)]) rfl rfl rfl (fun aa ww hs _ => by have e3 := hs 3 _ rfl; have g3 := gt_of e3; simp only [execOp]; go_simp <;> first | rfl | omega) ?_
 refine wQ (l := [.slice ga ys.length gc, .func (.func 82) #[] #[.pointer (some ⟨b3, 0, none⟩)]]) Try.func81 rfl (by kernel_rfl) (.int .i64 (atI ys n)) (fun wc H => indexLog ga gc ys b3 n wc (hp_held H (by (repeat (first | exact List.Mem.head _ | apply List.Mem.tail)))) (H.out.blk 0 rfl) (by omega)) rfl rfl rfl rfl ?_
 refine p_atC rfl ?_
 refine wN ?_
 refine tN (wKK hK2 ?_)
 refine wSeqK fun KK3 hK3 => ?_
 refine wSeqK fun KK4 hK4 => ?_
 refine wReg ?_
 iterate 2 refine p_atC rfl ?_
 refine wN ?_
 refine tN (wKK hK4 ?_)
 refine wCond (E := decide ((atI ys n) < 0)) rfl (fun z1 => ?_) (fun z1 => ?_)
 · skip
   have z1d : (atI ys n) < 0 := of_decide_eq_true z1
   refine wSeqK fun KK5 hK5 => ?_
   refine wReg ?_
   iterate 3 refine p_atC rfl ?_
   refine wKd rfl tyS_api_Change 2 rfl rfl ?_
   refine wE (.int .i64 ys.length) rfl rfl rfl (fun aa ww hs _ => by have e17 := hs 17 _ rfl; have g17 := gt_of e17; simp only [execOp]; go_simp <;> first | rfl | omega) ?_
   refine p_atC rfl ?_
   refine wN ?_
   refine tN (wKK hK5 ?_)
   refine wRet ?_
   refine tR ?_
   exact wR1 rfl rfl (fun ww H => ⟨congrArg (fun z => Ending.returned (Value.int .i64 z)) (by rw [at_is, z1]; rfl), H.out.off⟩)
 · skip
   have z1d : ¬ ((atI ys n) < 0) := of_decide_eq_false z1
   refine wSk ?_
   refine tN (wKK hK3 ?_)
   refine wSeqK fun KK6 hK6 => ?_
   refine wReg ?_
   iterate 2 refine p_atC rfl ?_
   refine wN ?_
   refine tN (wKK hK6 ?_)
   refine wRet ?_
   exact wR1 rfl rfl (fun ww H => ⟨congrArg (fun z => Ending.returned (Value.int .i64 z)) (by rw [at_is, z1]; rfl), H.out.off⟩)
theorem hp_heldK {S : List Nat} {w0 w : World} {R : List Res} {b : Nat} {t : TypeId} {cs : List Value} (H : Hid (Hp S w0 w R)) (h : rK b t cs ∈ R) : Blk w b cs.toArray t := H.out.holds _ h
def tab_sinceC : Wk.Tab := []
theorem p_sinceC {ops : Array Oper} {rest : List Oper} {o : Oper} {w0 : World} {Q : Exit → Act → World → Prop} {S : List Nat} {R : List Res} {K K' : Wk.Env} {N : Nat} (h : Wk.stp tab_sinceC N ops K o = some K') (n : Wk.Wk N S w0 K' R (wpList Try.prog ops Q rest)) : Wk.Wk N S w0 K R (wpList Try.prog ops Q (o :: rest)) := Wk.wP (T := tab_sinceC) (by kernel_rfl) h n
set_option maxRecDepth 20000 in
theorem sinceC_r3 (v : Nat) (b : BookV) (la : Option Addr) (lc : Nat) (da : Option Addr) (dc : Nat) (kc : Cfg) (kr : Int) (now : Int) (ga : Option Addr) (gc : Nat) (ys : List ChgV) (tr : Int) (stl : Int) (n : Int) (hyl : ys.length ≤ 1000) (hcap : ys.length ≤ gc) (hal : atN ys n ≤ ys.length) {wa wb : World} (H : Hid (Hp [] wa wb [rS ga gc 11 (ys.map chgRow), rK v 115 (vtL b.conf b.index b.room (.slice la b.live.length lc) (.slice da b.done.length dc) b.modes kc kr now (.slice ga ys.length gc) tr stl)])) (ac0 : Act) (hz : ac0.tmps.size = 16) (so0 : ac0.eval (.tmp 0) = .pointer (some ⟨v, 0, none⟩)) (so1 : ac0.eval (.tmp 1) = .int .i64 n) {QR : Exit → Act → World → Prop} (hfin : ∀ (a3_8 : Option Addr) (c3_8 : Nat) (ac1 : Act) (wz : World), ac1.tmps.size = 16 → ac1.defers = ac0.defers → (∀ t, ([4, 7, 8, 9, 10, 11, 12, 13, 14, 15] : List Nat).contains t = false → ac1.eval (.tmp t) = ac0.eval (.tmp t)) → ac1.eval (.tmp 4) = .slice a3_8 ((ys.drop (atN ys n)).length) c3_8 →  Hid (Hp [] wa wz [rA a3_8 c3_8 40 11 ((ys.drop (atN ys n)).map chgRow), rS ga gc 11 (ys.map chgRow), rK v 115 (vtL b.conf b.index b.room (.slice la b.live.length lc) (.slice da b.done.length dc) b.modes kc kr now (.slice ga ys.length gc) tr stl)]) → QR .normal ac1 wz) : (regAt Try.f36 3).wp Try.prog QR ac0 wb := by
  refine wp_region_st mixedP ⟨[0, 1, 2, 3, 0, 0, 1, 4, 5, 6], by kernel_rfl⟩ [[], [0], [0, 1], [0, 1, 2], [], [], [4, 5], [0, 1, 2, 3, 4, 5, 6], [0, 1, 2, 3, 4, 5, 6, 7], [0, 1, 2, 3, 4, 5, 6, 7, 8]] (by kernel_rfl) (by kernel_rfl) 16 hz (by kernel_rfl) (fun (xx : Option Addr × Nat) jx => match xx with | (a3_8, c3_8) => nth [.pointer (some ⟨v, 0, none⟩), .pointer (some ⟨v, 0, none⟩), .pointer (some ⟨v, 47, none⟩), .slice ga ys.length gc, .pointer (some ⟨v, 0, none⟩), .int .i64 n, .int .i64 (atN ys n), .slice (cutA ga gc (atN ys n) 11) (ys.length - (atN ys n)) (gc - (atN ys n)), .slice a3_8 ((ys.drop (atN ys n)).length) c3_8, .slice a3_8 ((ys.drop (atN ys n)).length) c3_8] jx) (fun (LL : Nat → Bool) (xx : Option Addr × Nat) ww => match xx with | (a3_8, c3_8) => Hp [] wa ww (bif LL 8 then [rA a3_8 c3_8 40 11 ((ys.drop (atN ys n)).map chgRow), rS ga gc 11 (ys.map chgRow), rK v 115 (vtL b.conf b.index b.room (.slice la b.live.length lc) (.slice da b.done.length dc) b.modes kc kr now (.slice ga ys.length gc) tr stl)] else [rS ga gc 11 (ys.map chgRow), rK v 115 (vtL b.conf b.index b.room (.slice la b.live.length lc) (.slice da b.done.length dc) b.modes kc kr now (.slice ga ys.length gc) tr stl)])) (default, default) H.out.drew ?_ (steps_al ?_) ?_ ?_
  · intro L1 L2 xx ww hL sg
    have lh8 := hL 8 (by decide)
    simp only [lh8] at sg
    exact sg
  · refine al_cons ?_ (al_cons ?_ (al_cons ?_ (al_cons ?_ (al_cons ?_ (al_cons ?_ (al_cons ?_ (al_cons ?_ (al_cons ?_ (al_cons ?_ (al_nil))))))))))
    · intro LL xx ac wc sg hst hwant QQ hgo
      obtain ⟨a3_8, c3_8⟩ := xx
      exact op_val hwant hgo hst _ (exec_move rfl ((sg.free 0 (by kernel_rfl)).trans so0)) rfl
    · intro LL xx ac wc sg hst hwant QQ hgo
      obtain ⟨a3_8, c3_8⟩ := xx
      have se7 : ac.eval (.tmp 7) = _ := (sg.slot 0 (sg.anc 0 rfl))
      have sg7 := gt_of se7
      (try simp only [nth] at se7 sg7)
      exact op_val hwant hgo hst _ (by simp only [execOp, nth]; go_simp <;> omega) rfl
    · intro LL xx ac wc sg hst hwant QQ hgo
      obtain ⟨a3_8, c3_8⟩ := xx
      have se8 : ac.eval (.tmp 8) = _ := (sg.slot 1 (sg.anc 1 rfl))
      have sg8 := gt_of se8
      (try simp only [nth] at se8 sg8)
      exact op_val hwant hgo hst _ (by simp only [execOp, nth]; go_simp <;> omega) rfl
    · intro LL xx ac wc sg hst hwant QQ hgo
      obtain ⟨a3_8, c3_8⟩ := xx
      have H := Lib.hid hst
      simp only [sg.des 8 rfl, cond_true, cond_false] at H
      refine hpK_load1 tyS_api_Change H rfl (sg.slot 2 (sg.anc 2 rfl)) hwant (by (repeat (first | exact List.Mem.head _ | apply List.Mem.tail))) (by rfl) ?_
      exact hgo _ (a3_8, c3_8) _ (fun _ _ => rfl) rfl hst
    · intro LL xx ac wc sg hst hwant QQ hgo
      obtain ⟨a3_8, c3_8⟩ := xx
      exact op_val hwant hgo hst _ (exec_move rfl ((sg.free 0 (by kernel_rfl)).trans so0)) rfl
    · intro LL xx ac wc sg hst hwant QQ hgo
      obtain ⟨a3_8, c3_8⟩ := xx
      exact op_val hwant hgo hst _ (exec_move rfl ((sg.free 1 (by kernel_rfl)).trans so1)) rfl
    · intro LL xx ac wc sg hst hwant QQ hgo
      obtain ⟨a3_8, c3_8⟩ := xx
      have se11 : ac.eval (.tmp 11) = _ := (sg.slot 4 (sg.anc 4 rfl))
      have sg11 := gt_of se11
      have se12 : ac.eval (.tmp 12) = _ := (sg.slot 5 (sg.anc 5 rfl))
      have sg12 := gt_of se12
      (try simp only [nth] at se11 sg11 se12 sg12)
      have H := Lib.hid hst
      simp only [sg.des 8 rfl, cond_true, cond_false] at H
      refine op_call hwant hgo 64 #[.pointer (some ⟨v, 0, none⟩), .int .i64 n] (by simp only [execOp]; go_simp) (atC v b la lc da dc kc kr now ga gc ys tr stl n wc (hp_heldK H (by (repeat (first | exact List.Mem.head _ | apply List.Mem.tail)))) (hp_held H (by (repeat (first | exact List.Mem.head _ | apply List.Mem.tail)))) hyl) ?_
      rintro er wd ⟨rfl, hof⟩
      exact ⟨_, (a3_8, c3_8), rfl, fun _ _ => rfl, rfl, Hp.quiet hst hof⟩
    · intro LL xx ac wc sg hst hwant QQ hgo
      obtain ⟨a3_8, c3_8⟩ := xx
      have hcy : ac.eval (.tmp 13) = .int .i64 (((atN ys n : Nat)) : Int) := ((sg.slot 6 (sg.anc 6 rfl))).trans (by first | rfl | simp)
      exact op_val hwant hgo hst _ (exec_cut_l elChg rfl (sg.slot 3 (sg.anc 3 rfl)) hcy (by omega)) rfl
    · intro LL xx ac wc sg hst hwant QQ hgo
      obtain ⟨_, _⟩ := xx
      have se14 : ac.eval (.tmp 14) = _ := (sg.slot 7 (sg.anc 7 rfl))
      have sg14 := gt_of se14
      (try simp only [nth] at se14 sg14)
      have H := Lib.hid hst
      simp only [sg.self, cond_true, cond_false] at H
      refine op_call hwant hgo 63 #[.slice (cutA ga gc (atN ys n) 11) (ys.length - (atN ys n)) (gc - (atN ys n))] (by simp only [execOp]; go_simp) (cloneDrop ga gc ys (atN ys n) wc (hp_held H (by (repeat (first | exact List.Mem.head _ | apply List.Mem.tail)))) hal hcap hyl) ?_
      rintro er wd ⟨a3_8, c3_8, rfl, hA1, hA2, hof⟩
      have H2 := hp_gotA H hof hA1 hA2
      exact ⟨_, (a3_8, c3_8), rfl, (sg.agree (x' := (a3_8, c3_8)) (n := 10) rfl (by (iterate 10 (refine ix_cons (by first | exact fun _ => rfl | exact no sg.self | exact no (sg.des _ rfl)) ?_)); exact ix_nil)), rfl, (by simp only [(show upd LL 8 8 = true from rfl), cond_true, cond_false]; exact H2.out)⟩
    · intro LL xx ac wc sg hst hwant QQ hgo
      obtain ⟨a3_8, c3_8⟩ := xx
      exact op_val hwant hgo hst _ (exec_assign rfl (sg.slot 8 (sg.anc 8 rfl))) rfl
  · exact skips [] (by kernel_rfl) (fun _ h => by cases h)
  · intro xx ac1 wz hfr hsl hst
    obtain ⟨a3_8, c3_8⟩ := xx
    exact hfin a3_8 c3_8 ac1 wz (hfr.size.trans hz) hfr.defers (fr_keep hfr [4, 7, 8, 9, 10, 11, 12, 13, 14, 15] (by kernel_rfl)) (hsl 9 (by decide)) (Lib.hid hst)
set_option maxHeartbeats 16000000 in
set_option maxRecDepth 20000 in
theorem sinceC (v : Nat) (b : BookV) (la : Option Addr) (lc : Nat) (da : Option Addr) (dc : Nat) (kc : Cfg) (kr : Int) (now : Int) (ga : Option Addr) (gc : Nat) (ys : List ChgV) (tr : Int) (stl : Int) (n : Int) (w : World) (hm : Blk w v (vtA b.conf b.index b.room (.slice la b.live.length lc) (.slice da b.done.length dc) b.modes kc kr now (.slice ga ys.length gc) tr stl) 115) (hg : (rS ga gc 11 (ys.map chgRow)).holds w) (hyl : ys.length ≤ 1000) (hcap : ys.length ≤ gc) : Calls Try.prog 36 #[.pointer (some ⟨v, 0, none⟩), .int .i64 n] w fun e w' => ∃ a' c', e = .returned (.slice a' (ys.drop (atN ys n)).length c') ∧ (rS a' c' 11 ((ys.drop (atN ys n)).map chgRow)).holds w' ∧ (∀ q ∈ (rS a' c' 11 ((ys.drop (atN ys n)).map chgRow)).foot, w.heap.size ≤ q) ∧ Off [] w w' := by
 have H := Lib.hid (Hp.start [] w)
 have H := hp_oldK H (cs := (vtL b.conf b.index b.room (.slice la b.live.length lc) (.slice da b.done.length dc) b.modes kc kr now (.slice ga ys.length gc) tr stl)) hm
 clear hm
 have H := hp_old H hg (by decide)
 clear hg
 have hal := at_le ys n
 refine wStart (args := [.pointer (some ⟨v, 0, none⟩), .int .i64 n]) Try.func36 rfl rfl rfl H ?_
 clear H
 show Wk 16 _ _ [(0, .pointer (some ⟨v, 0, none⟩)), (1, .int .i64 n)] _ _
 refine wSeqK fun KK1 hK1 => ?_
 refine wReg ?_
 refine p_sinceC rfl ?_
 refine wN ?_
 refine tN (wKK hK1 ?_)
 refine wSeqK fun KK2 hK2 => ?_
 refine wSeqK fun KK3 hK3 => ?_
 refine wReg ?_
 refine p_sinceC rfl ?_
 refine wE (.bool false) rfl rfl rfl (fun aa ww hs _ => by exact exec_pnil_eql rfl (hs _ _ rfl) rfl Try.underlying75) ?_
 refine wN ?_
 refine tN (wKK hK3 ?_)
 refine wCf rfl ?_
 refine wSk ?_
 refine tN (wKK hK2 ?_)
 refine wSeqK fun KK4 hK4 => ?_
 intro aa ww nn dd hs H
 refine sinceC_r3 v b la lc da dc kc kr now ga gc ys tr stl n hyl hcap hal H aa nn (hs 0 _ rfl) (hs 1 _ rfl) ?_
 intro a3_8 c3_8 ab wv nn2 dd2 kp o4 H2
 refine wIn nn2 (dd2.trans dd) (Sat.cons (Sat.cons (Sat.cons (Sat.cons (sat_nil ab) ((kp 6 rfl).trans (hs 6 _ rfl))) ((kp 1 rfl).trans (hs 1 _ rfl))) ((kp 0 rfl).trans (hs 0 _ rfl))) o4) H2 ?_
 clear hs H kp H2 dd dd2 nn nn2 o4
 refine tN (wKK hK4 ?_)
 refine wRet ?_
 exact wR1 rfl rfl (fun ww H => (by have hg := give_A (H.out.at 0 rfl) (fresh0 H (l := 0) rfl); exact ⟨a3_8, c3_8, rfl, hg.1, hg.2, H.out.off⟩))
def tab_forgetC : Wk.Tab := [(115, 1, 47)]
theorem p_forgetC {ops : Array Oper} {rest : List Oper} {o : Oper} {w0 : World} {Q : Exit → Act → World → Prop} {S : List Nat} {R : List Res} {K K' : Wk.Env} {N : Nat} (h : Wk.stp tab_forgetC N ops K o = some K') (n : Wk.Wk N S w0 K' R (wpList Try.prog ops Q rest)) : Wk.Wk N S w0 K R (wpList Try.prog ops Q (o :: rest)) := Wk.wP (T := tab_forgetC) (by kernel_rfl) h n
set_option maxHeartbeats 16000000 in
set_option maxRecDepth 20000 in
theorem forgetC (v : Nat) (b : BookV) (la : Option Addr) (lc : Nat) (da : Option Addr) (dc : Nat) (kc : Cfg) (kr : Int) (now : Int) (ga : Option Addr) (gc : Nat) (ys : List ChgV) (tr : Int) (stl : Int) (n : Int) (w : World) (HH : Hid (Hp (v :: footA ga) w w [rB v 115 (vtL b.conf b.index b.room (.slice la b.live.length lc) (.slice da b.done.length dc) b.modes kc kr now (.slice ga ys.length gc) tr stl), rA ga gc 40 11 (ys.map chgRow)])) (hyl : ys.length ≤ 1000) : Calls Try.prog 39 #[.pointer (some ⟨v, 0, none⟩), .int .i64 n] w fun e w' => ∃ ga' gc', e = .returned (.int .i64 (atN ys n)) ∧ Hid (Hp (v :: footA ga) w w' [rB v 115 (vtL b.conf b.index b.room (.slice la b.live.length lc) (.slice da b.done.length dc) b.modes kc kr now (.slice ga' ((ys.drop (atN ys n)).length) gc') tr stl), rA ga' gc' 40 11 ((ys.drop (atN ys n)).map chgRow)]) := by
 have H := Lib.hid (Hp.start [] w)
 have H := HH
 clear HH
 have hal := at_le ys n
 have hcap := rA_cap (H.out.at 1 rfl)
 rw [List.length_map] at hcap
 refine wStart (args := [.pointer (some ⟨v, 0, none⟩), .int .i64 n]) Try.func39 rfl rfl rfl H ?_
 clear H
 show Wk 22 _ _ [(0, .pointer (some ⟨v, 0, none⟩)), (1, .int .i64 n)] _ _
 refine wSeqK fun KK1 hK1 => ?_
 refine wReg ?_
 refine p_forgetC rfl ?_
 refine wN ?_
 refine tN (wKK hK1 ?_)
 refine wSeqK fun KK2 hK2 => ?_
 refine wSeqK fun KK3 hK3 => ?_
 refine wReg ?_
 refine p_forgetC rfl ?_
 refine wE (.bool false) rfl rfl rfl (fun aa ww hs _ => by exact exec_pnil_eql rfl (hs _ _ rfl) rfl Try.underlying75) ?_
 refine wN ?_
 refine tN (wKK hK3 ?_)
 refine wCf rfl ?_
 refine wSk ?_
 refine tN (wKK hK2 ?_)
 refine wSeqK fun KK4 hK4 => ?_
 refine wReg ?_
 iterate 2 refine p_forgetC rfl ?_
 refine wQ (l := [.pointer (some ⟨v, 0, none⟩), .int .i64 n]) Try.func64 rfl (by kernel_rfl) (.int .i64 (atN ys n)) (fun wc H => atC v b la lc da dc kc kr now ga gc ys tr stl n wc (H.out.blk 0 rfl) (hp_held (hp_read H 1 rfl) (by (repeat (first | exact List.Mem.head _ | apply List.Mem.tail)))) hyl) rfl rfl rfl rfl ?_
 refine p_forgetC rfl ?_
 refine wN ?_
 refine tN (wKK hK4 ?_)
 refine wSeqK fun KK5 hK5 => ?_
 refine wReg ?_
 iterate 4 refine p_forgetC rfl ?_
 refine wLd rfl tyS_api_Change 0 rfl rfl ?_
 refine p_forgetC rfl ?_
 refine wE (.slice (cutA ga gc (atN ys n) 11) (ys.length - (atN ys n)) (gc - (atN ys n))) rfl rfl rfl (fun aa ww hs _ => exec_cut_l elChg rfl (hs _ _ rfl) ((hs _ _ rfl).trans (by first | rfl | simp)) (by omega)) ?_
 refine wC (l := [.slice (cutA ga gc (atN ys n) 11) (ys.length - (atN ys n)) (gc - (atN ys n))]) Try.func63 rfl (by kernel_rfl) (fun wc H => cloneDrop ga gc ys (atN ys n) wc (hp_held (hp_read H 1 rfl) (by (repeat (first | exact List.Mem.head _ | apply List.Mem.tail)))) hal hcap hyl) rfl rfl rfl rfl ?_
 intro wc H
 rintro er wd ⟨a4_7, c4_7, rfl, hA1, hA2, hof⟩
 have H2 := hp_gotA H hof hA1 hA2
 refine ⟨_, rfl, wkAt H2 ?_⟩
 clear H H2 hof
 iterate 2 refine p_forgetC rfl ?_
 refine wSt rfl tyS_api_Change 1 rfl rfl rfl rfl ?_
 refine wN ?_
 refine tN (wKK hK5 ?_)
 refine wSeqK fun KK6 hK6 => ?_
 refine wReg ?_
 iterate 2 refine p_forgetC rfl ?_
 refine wN ?_
 refine tN (wKK hK6 ?_)
 refine wRet ?_
 exact wR1 rfl rfl (fun ww H => ⟨a4_7, c4_7, rfl, hp_sel [1, 0] H (by decide) rfl⟩)
def tab_commitNo : Wk.Tab := [(115, 2, 48), (115, 3, 49)]
theorem p_commitNo {ops : Array Oper} {rest : List Oper} {o : Oper} {w0 : World} {Q : Exit → Act → World → Prop} {S : List Nat} {R : List Res} {K K' : Wk.Env} {N : Nat} (h : Wk.stp tab_commitNo N ops K o = some K') (n : Wk.Wk N S w0 K' R (wpList Try.prog ops Q rest)) : Wk.Wk N S w0 K R (wpList Try.prog ops Q (o :: rest)) := Wk.wP (T := tab_commitNo) (by kernel_rfl) h n
set_option maxRecDepth 20000 in
theorem commitNo_r4 (v : Nat) (b : BookV) (la : Option Addr) (lc : Nat) (da : Option Addr) (dc : Nat) (kc : Cfg) (kr : Int) (now : Int) (ga : Option Addr) (gc : Nat) (ys : List ChgV) (tr : Int) (stl : Int) (sb : BookV) (sla : Option Addr) (slc : Nat) (sda : Option Addr) (sdc : Nat) (skc : Cfg) (skr : Int) (snow : Int) (nb : BookV) (nla : Option Addr) (nlc : Nat) (nda : Option Addr) (ndc : Nat) (x : ChgV) (nkc : Cfg) (nkr : Int) (b6 : Nat) (b7 : Nat) (b8 : Nat) (b9 : Nat) (hq : ((sb.index) != (b.index)) = true) (htr : (0 ≤ tr ∧ tr ≤ 1000) ∧ 0 ≤ stl ∧ stl ≤ 1000) {wa wb : World} (H : Hid (Hp [v] wa wb [rB b9 82 (kyL nkc nkr), rB b8 40 (chL x), rB b7 33 (bkL nb.conf nb.index nb.room (.slice nla nb.live.length nlc) (.slice nda nb.done.length ndc) nb.modes), rB b6 84 (snL sb.conf sb.index sb.room (.slice sla sb.live.length slc) (.slice sda sb.done.length sdc) sb.modes skc skr snow), rB v 115 (vtL b.conf b.index b.room (.slice la b.live.length lc) (.slice da b.done.length dc) b.modes kc kr now (.slice ga ys.length gc) (tr + 1) stl)])) (ac0 : Act) (hz : ac0.tmps.size = 77) (so0 : ac0.eval (.tmp 0) = .pointer (some ⟨v, 0, none⟩)) (so6 : ac0.eval (.tmp 6) = .pointer (some ⟨b6, 0, none⟩)) {QR : Exit → Act → World → Prop} (hfin : ∀ (ac1 : Act) (wz : World), ac1.tmps.size = 77 → ac1.defers = ac0.defers → (∀ t, ([22, 23, 24, 25, 26, 27, 28, 29, 30, 31] : List Nat).contains t = false → ac1.eval (.tmp t) = ac0.eval (.tmp t)) → ac1.eval (.tmp 31) = .bool true →  Hid (Hp [v] wa wz [rB b9 82 (kyL nkc nkr), rB b8 40 (chL x), rB b7 33 (bkL nb.conf nb.index nb.room (.slice nla nb.live.length nlc) (.slice nda nb.done.length ndc) nb.modes), rB b6 84 (snL sb.conf sb.index sb.room (.slice sla sb.live.length slc) (.slice sda sb.done.length sdc) sb.modes skc skr snow), rB v 115 (vtL b.conf b.index b.room (.slice la b.live.length lc) (.slice da b.done.length dc) b.modes kc kr now (.slice ga ys.length gc) (tr + 1) stl)]) → QR .normal ac1 wz) : (regAt Try.f35 4).wp Try.prog QR ac0 wb := by
  refine wp_region_st mixedP ⟨[0, 1, 2, 0, 1, 2, 3, 4, 5, 6], by kernel_rfl⟩ [[], [0], [0, 1], [], [3], [3, 4], [3, 4, 5], [3, 4, 5, 6], [0, 1, 2, 3, 4, 5, 6, 7], [0, 1, 2, 3, 4, 5, 6, 7, 8]] (by kernel_rfl) (by kernel_rfl) 77 hz (by kernel_rfl) (fun (xx : Unit) jx => nth [.pointer (some ⟨b6, 0, none⟩), .agg (bkA sb.conf sb.index sb.room (.slice sla sb.live.length slc) (.slice sda sb.done.length sdc) sb.modes), .int .i64 sb.index, .pointer (some ⟨v, 0, none⟩), .pointer (some ⟨v, 0, none⟩), .pointer (some ⟨v, 0, none⟩), .pointer (some ⟨v, 0, none⟩), .agg (bkA b.conf b.index b.room (.slice la b.live.length lc) (.slice da b.done.length dc) b.modes), .int .i64 b.index, .bool true] jx) (fun (LL : Nat → Bool) (xx : Unit) ww => Hp [v] wa ww [rB b9 82 (kyL nkc nkr), rB b8 40 (chL x), rB b7 33 (bkL nb.conf nb.index nb.room (.slice nla nb.live.length nlc) (.slice nda nb.done.length ndc) nb.modes), rB b6 84 (snL sb.conf sb.index sb.room (.slice sla sb.live.length slc) (.slice sda sb.done.length sdc) sb.modes skc skr snow), rB v 115 (vtL b.conf b.index b.room (.slice la b.live.length lc) (.slice da b.done.length dc) b.modes kc kr now (.slice ga ys.length gc) (tr + 1) stl)]) () H.out.drew ?_ (steps_al ?_) ?_ ?_
  · exact fun _ _ _ _ _ h => h
  · refine al_cons ?_ (al_cons ?_ (al_cons ?_ (al_cons ?_ (al_cons ?_ (al_cons ?_ (al_cons ?_ (al_cons ?_ (al_cons ?_ (al_cons ?_ (al_nil))))))))))
    · intro LL xx ac wc sg hst hwant QQ hgo
      have se6 : ac.eval (.tmp 6) = _ := ((sg.free 6 (by kernel_rfl)).trans so6)
      have sg6 := gt_of se6
      exact op_val hwant hgo hst _ (by simp only [execOp, nth]; go_simp <;> omega) rfl
    · intro LL xx ac wc sg hst hwant QQ hgo
      have H := Lib.hid hst
      refine hpA_load tybook_Book H rfl (sg.slot 0 (sg.anc 0 rfl)) hwant (by (repeat (first | exact List.Mem.head _ | apply List.Mem.tail))) (by rfl) rfl ?_
      exact hgo _ () _ (fun _ _ => rfl) rfl hst
    · intro LL xx ac wc sg hst hwant QQ hgo
      have se23 : ac.eval (.tmp 23) = _ := (sg.slot 1 (sg.anc 1 rfl))
      have sg23 := gt_of se23
      (try simp only [nth] at se23 sg23)
      refine op_call hwant hgo 11 #[.agg (bkA sb.conf sb.index sb.room (.slice sla sb.live.length slc) (.slice sda sb.done.length sdc) sb.modes)] (by simp only [execOp]; go_simp) (indexN sb sla slc sda sdc wc) ?_
      rintro er wd ⟨rfl, hof⟩
      exact ⟨_, (), rfl, fun _ _ => rfl, rfl, Hp.quiet hst hof⟩
    · intro LL xx ac wc sg hst hwant QQ hgo
      exact op_val hwant hgo hst _ (exec_move rfl ((sg.free 0 (by kernel_rfl)).trans so0)) rfl
    · intro LL xx ac wc sg hst hwant QQ hgo
      have se25 : ac.eval (.tmp 25) = _ := (sg.slot 3 (sg.anc 3 rfl))
      have sg25 := gt_of se25
      (try simp only [nth] at se25 sg25)
      exact op_val hwant hgo hst _ (by simp only [execOp, nth]; go_simp <;> omega) rfl
    · intro LL xx ac wc sg hst hwant QQ hgo
      have se26 : ac.eval (.tmp 26) = _ := (sg.slot 4 (sg.anc 4 rfl))
      have sg26 := gt_of se26
      (try simp only [nth] at se26 sg26)
      exact op_val hwant hgo hst _ (by simp only [execOp, nth]; go_simp <;> omega) rfl
    · intro LL xx ac wc sg hst hwant QQ hgo
      have se27 : ac.eval (.tmp 27) = _ := (sg.slot 5 (sg.anc 5 rfl))
      have sg27 := gt_of se27
      (try simp only [nth] at se27 sg27)
      exact op_val hwant hgo hst _ (by simp only [execOp, nth]; go_simp <;> omega) rfl
    · intro LL xx ac wc sg hst hwant QQ hgo
      have H := Lib.hid hst
      refine hpA_load tybook_Book H rfl (sg.slot 6 (sg.anc 6 rfl)) hwant (by (repeat (first | exact List.Mem.head _ | apply List.Mem.tail))) (by rfl) rfl ?_
      exact hgo _ () _ (fun _ _ => rfl) rfl hst
    · intro LL xx ac wc sg hst hwant QQ hgo
      have se29 : ac.eval (.tmp 29) = _ := (sg.slot 7 (sg.anc 7 rfl))
      have sg29 := gt_of se29
      (try simp only [nth] at se29 sg29)
      refine op_call hwant hgo 11 #[.agg (bkA b.conf b.index b.room (.slice la b.live.length lc) (.slice da b.done.length dc) b.modes)] (by simp only [execOp]; go_simp) (indexN b la lc da dc wc) ?_
      rintro er wd ⟨rfl, hof⟩
      exact ⟨_, (), rfl, fun _ _ => rfl, rfl, Hp.quiet hst hof⟩
    · intro LL xx ac wc sg hst hwant QQ hgo
      have se24 : ac.eval (.tmp 24) = _ := (sg.slot 2 (sg.anc 2 rfl))
      have sg24 := gt_of se24
      have se30 : ac.eval (.tmp 30) = _ := (sg.slot 8 (sg.anc 8 rfl))
      have sg30 := gt_of se30
      (try simp only [nth] at se24 sg24 se30 sg30)
      exact op_val hwant hgo hst _ (by simp only [execOp, nth]; go_simp <;> omega) rfl
  · exact skips [] (by kernel_rfl) (fun _ h => by cases h)
  · intro xx ac1 wz hfr hsl hst
    exact hfin ac1 wz (hfr.size.trans hz) hfr.defers (fr_keep hfr [22, 23, 24, 25, 26, 27, 28, 29, 30, 31] (by kernel_rfl)) (hsl 9 (by decide)) (Lib.hid hst)
set_option maxHeartbeats 16000000 in
set_option maxRecDepth 20000 in
theorem commitNo (v : Nat) (b : BookV) (la : Option Addr) (lc : Nat) (da : Option Addr) (dc : Nat) (kc : Cfg) (kr : Int) (now : Int) (ga : Option Addr) (gc : Nat) (ys : List ChgV) (tr : Int) (stl : Int) (sb : BookV) (sla : Option Addr) (slc : Nat) (sda : Option Addr) (sdc : Nat) (skc : Cfg) (skr : Int) (snow : Int) (nb : BookV) (nla : Option Addr) (nlc : Nat) (nda : Option Addr) (ndc : Nat) (x : ChgV) (nkc : Cfg) (nkr : Int) (w : World) (hm : Blk w v (vtA b.conf b.index b.room (.slice la b.live.length lc) (.slice da b.done.length dc) b.modes kc kr now (.slice ga ys.length gc) tr stl) 115) (htr : (0 ≤ tr ∧ tr ≤ 1000) ∧ 0 ≤ stl ∧ stl ≤ 1000) (hq : ((sb.index) != (b.index)) = true) : Calls Try.prog 35 #[.pointer (some ⟨v, 0, none⟩), .agg (snA sb.conf sb.index sb.room (.slice sla sb.live.length slc) (.slice sda sb.done.length sdc) sb.modes skc skr snow), .agg (bkA nb.conf nb.index nb.room (.slice nla nb.live.length nlc) (.slice nda nb.done.length ndc) nb.modes), .agg (chA x), .agg (kyA nkc nkr)] w fun e w' => e = .returned (.int .i64 9) ∧ Blk w' v (vtA b.conf b.index b.room (.slice la b.live.length lc) (.slice da b.done.length dc) b.modes kc kr now (.slice ga ys.length gc) (tr + 1) (stl + 1)) 115 ∧ Off [v] w w' := by
 have H := Lib.hid (Hp.start [] w)
 have H := hp_oneV (cs := (vtL b.conf b.index b.room (.slice la b.live.length lc) (.slice da b.done.length dc) b.modes kc kr now (.slice ga ys.length gc) tr stl)) hm
 clear hm
 refine wStart (args := [.pointer (some ⟨v, 0, none⟩), .agg (snA sb.conf sb.index sb.room (.slice sla sb.live.length slc) (.slice sda sb.done.length sdc) sb.modes skc skr snow), .agg (bkA nb.conf nb.index nb.room (.slice nla nb.live.length nlc) (.slice nda nb.done.length ndc) nb.modes), .agg (chA x), .agg (kyA nkc nkr)]) Try.func35 rfl rfl rfl H ?_
 clear H
 show Wk 77 _ _ [(0, .pointer (some ⟨v, 0, none⟩)), (1, .agg (snA sb.conf sb.index sb.room (.slice sla sb.live.length slc) (.slice sda sb.done.length sdc) sb.modes skc skr snow)), (2, .agg (bkA nb.conf nb.index nb.room (.slice nla nb.live.length nlc) (.slice nda nb.done.length ndc) nb.modes)), (3, .agg (chA x)), (4, .agg (kyA nkc nkr))] _ _
 refine wSeqK fun KK1 hK1 => ?_
 refine wReg ?_
 refine wBx rfl rfl rfl fun b6 => ?_
 refine wBx rfl rfl rfl fun b7 => ?_
 refine wBx rfl rfl rfl fun b8 => ?_
 refine wBx rfl rfl rfl fun b9 => ?_
 refine p_commitNo rfl ?_
 refine wN ?_
 refine tN (wKK hK1 ?_)
 refine wSeqK fun KK2 hK2 => ?_
 refine wSeqK fun KK3 hK3 => ?_
 refine wReg ?_
 refine p_commitNo rfl ?_
 refine wE (.bool false) rfl rfl rfl (fun aa ww hs _ => by exact exec_pnil_eql rfl (hs _ _ rfl) rfl Try.underlying75) ?_
 refine wN ?_
 refine tN (wKK hK3 ?_)
 refine wCf rfl ?_
 refine wSk ?_
 refine tN (wKK hK2 ?_)
 refine wSeqK fun KK4 hK4 => ?_
 refine wReg ?_
 iterate 3 refine p_commitNo rfl ?_
 refine wLd rfl tyint 4 rfl rfl ?_
 refine p_commitNo rfl ?_
 refine wI 19 rfl (IntWalk.i64_in _ (by omega)) ?_
 iterate 2 refine p_commitNo rfl ?_
 refine wSt rfl tyint 4 rfl rfl rfl rfl ?_
 refine wN ?_
 refine tN (wKK hK4 ?_)
 refine wSeqK fun KK5 hK5 => ?_
 refine wSeqK fun KK6 hK6 => ?_
 intro aa ww nn dd hs H
 refine commitNo_r4 v b la lc da dc kc kr now ga gc ys tr stl sb sla slc sda sdc skc skr snow nb nla nlc nda ndc x nkc nkr b6 b7 b8 b9 hq htr H aa nn (hs 0 _ rfl) (hs 6 _ rfl) ?_
 intro ab wv nn2 dd2 kp o31 H2
 refine wIn nn2 (dd2.trans dd) (Sat.cons (Sat.cons (Sat.cons (Sat.cons (Sat.cons (Sat.cons (Sat.cons (Sat.cons (Sat.cons (Sat.cons (Sat.cons (Sat.cons (sat_nil ab) ((kp 14 rfl).trans (hs 14 _ rfl))) ((kp 10 rfl).trans (hs 10 _ rfl))) ((kp 9 rfl).trans (hs 9 _ rfl))) ((kp 8 rfl).trans (hs 8 _ rfl))) ((kp 7 rfl).trans (hs 7 _ rfl))) ((kp 6 rfl).trans (hs 6 _ rfl))) ((kp 4 rfl).trans (hs 4 _ rfl))) ((kp 3 rfl).trans (hs 3 _ rfl))) ((kp 2 rfl).trans (hs 2 _ rfl))) ((kp 1 rfl).trans (hs 1 _ rfl))) ((kp 0 rfl).trans (hs 0 _ rfl))) o31) H2 ?_
 clear hs H kp H2 dd dd2 nn nn2 o31
 refine tN (wKK hK6 ?_)
 refine wCt rfl ?_
 refine wSeqK fun KK7 hK7 => ?_
 refine wReg ?_
 iterate 3 refine p_commitNo rfl ?_
 refine wLd rfl tyint 4 rfl rfl ?_
 refine p_commitNo rfl ?_
 refine wI 36 rfl (IntWalk.i64_in _ (by omega)) ?_
 iterate 2 refine p_commitNo rfl ?_
 refine wSt rfl tyint 4 rfl rfl rfl rfl ?_
 refine wN ?_
 refine tN (wKK hK7 ?_)
 refine wSeqK fun KK8 hK8 => ?_
 refine wReg ?_
 refine p_commitNo rfl ?_
 refine wN ?_
 refine tN (wKK hK8 ?_)
 refine wRet ?_
 refine tR ?_
 exact wR1 rfl rfl (fun ww H => ⟨rfl, H.out.blk 4 rfl, H.out.off⟩)
def tab_commitYes : Wk.Tab := [(115, 2, 48)]
theorem p_commitYes {ops : Array Oper} {rest : List Oper} {o : Oper} {w0 : World} {Q : Exit → Act → World → Prop} {S : List Nat} {R : List Res} {K K' : Wk.Env} {N : Nat} (h : Wk.stp tab_commitYes N ops K o = some K') (n : Wk.Wk N S w0 K' R (wpList Try.prog ops Q rest)) : Wk.Wk N S w0 K R (wpList Try.prog ops Q (o :: rest)) := Wk.wP (T := tab_commitYes) (by kernel_rfl) h n
set_option maxRecDepth 20000 in
theorem commitYes_r4 (v : Nat) (b : BookV) (la : Option Addr) (lc : Nat) (da : Option Addr) (dc : Nat) (kc : Cfg) (kr : Int) (now : Int) (ga : Option Addr) (gc : Nat) (ys : List ChgV) (tr : Int) (stl : Int) (sb : BookV) (sla : Option Addr) (slc : Nat) (sda : Option Addr) (sdc : Nat) (skc : Cfg) (skr : Int) (snow : Int) (nb : BookV) (nla : Option Addr) (nlc : Nat) (nda : Option Addr) (ndc : Nat) (x : ChgV) (nkc : Cfg) (nkr : Int) (b6 : Nat) (b7 : Nat) (b8 : Nat) (b9 : Nat) (hq : ((sb.index) != (b.index)) = false) (htr : (0 ≤ tr ∧ tr ≤ 1000) ∧ 0 ≤ stl ∧ stl ≤ 1000) (hyl : ys.length ≤ 1000) (ha : applyV b x = (nb, 0)) {wa wb : World} (H : Hid (Hp (v :: footA ga) wa wb [rB b9 82 (kyL nkc nkr), rB b8 40 (chL x), rB b7 33 (bkL nb.conf nb.index nb.room (.slice nla nb.live.length nlc) (.slice nda nb.done.length ndc) nb.modes), rB b6 84 (snL sb.conf sb.index sb.room (.slice sla sb.live.length slc) (.slice sda sb.done.length sdc) sb.modes skc skr snow), rB v 115 (vtL b.conf b.index b.room (.slice la b.live.length lc) (.slice da b.done.length dc) b.modes kc kr now (.slice ga ys.length gc) (tr + 1) stl), rA ga gc 40 11 (ys.map chgRow), rS la lc 9 (b.live.map rowOf), rS da dc 8 (b.done.map callRow), rS nla nlc 9 (nb.live.map rowOf), rS nda ndc 8 (nb.done.map callRow)])) (ac0 : Act) (hz : ac0.tmps.size = 77) (so0 : ac0.eval (.tmp 0) = .pointer (some ⟨v, 0, none⟩)) (so6 : ac0.eval (.tmp 6) = .pointer (some ⟨b6, 0, none⟩)) {QR : Exit → Act → World → Prop} (hfin : ∀ (ac1 : Act) (wz : World), ac1.tmps.size = 77 → ac1.defers = ac0.defers → (∀ t, ([22, 23, 24, 25, 26, 27, 28, 29, 30, 31] : List Nat).contains t = false → ac1.eval (.tmp t) = ac0.eval (.tmp t)) → ac1.eval (.tmp 31) = .bool false →  Hid (Hp (v :: footA ga) wa wz [rB b9 82 (kyL nkc nkr), rB b8 40 (chL x), rB b7 33 (bkL nb.conf nb.index nb.room (.slice nla nb.live.length nlc) (.slice nda nb.done.length ndc) nb.modes), rB b6 84 (snL sb.conf sb.index sb.room (.slice sla sb.live.length slc) (.slice sda sb.done.length sdc) sb.modes skc skr snow), rB v 115 (vtL b.conf b.index b.room (.slice la b.live.length lc) (.slice da b.done.length dc) b.modes kc kr now (.slice ga ys.length gc) (tr + 1) stl), rA ga gc 40 11 (ys.map chgRow), rS la lc 9 (b.live.map rowOf), rS da dc 8 (b.done.map callRow), rS nla nlc 9 (nb.live.map rowOf), rS nda ndc 8 (nb.done.map callRow)]) → QR .normal ac1 wz) : (regAt Try.f35 4).wp Try.prog QR ac0 wb := by
  refine wp_region_st mixedP ⟨[0, 1, 2, 0, 1, 2, 3, 4, 5, 6], by kernel_rfl⟩ [[], [0], [0, 1], [], [3], [3, 4], [3, 4, 5], [3, 4, 5, 6], [0, 1, 2, 3, 4, 5, 6, 7], [0, 1, 2, 3, 4, 5, 6, 7, 8]] (by kernel_rfl) (by kernel_rfl) 77 hz (by kernel_rfl) (fun (xx : Unit) jx => nth [.pointer (some ⟨b6, 0, none⟩), .agg (bkA sb.conf sb.index sb.room (.slice sla sb.live.length slc) (.slice sda sb.done.length sdc) sb.modes), .int .i64 sb.index, .pointer (some ⟨v, 0, none⟩), .pointer (some ⟨v, 0, none⟩), .pointer (some ⟨v, 0, none⟩), .pointer (some ⟨v, 0, none⟩), .agg (bkA b.conf b.index b.room (.slice la b.live.length lc) (.slice da b.done.length dc) b.modes), .int .i64 b.index, .bool false] jx) (fun (LL : Nat → Bool) (xx : Unit) ww => Hp (v :: footA ga) wa ww [rB b9 82 (kyL nkc nkr), rB b8 40 (chL x), rB b7 33 (bkL nb.conf nb.index nb.room (.slice nla nb.live.length nlc) (.slice nda nb.done.length ndc) nb.modes), rB b6 84 (snL sb.conf sb.index sb.room (.slice sla sb.live.length slc) (.slice sda sb.done.length sdc) sb.modes skc skr snow), rB v 115 (vtL b.conf b.index b.room (.slice la b.live.length lc) (.slice da b.done.length dc) b.modes kc kr now (.slice ga ys.length gc) (tr + 1) stl), rA ga gc 40 11 (ys.map chgRow), rS la lc 9 (b.live.map rowOf), rS da dc 8 (b.done.map callRow), rS nla nlc 9 (nb.live.map rowOf), rS nda ndc 8 (nb.done.map callRow)]) () H.out.drew ?_ (steps_al ?_) ?_ ?_
  · exact fun _ _ _ _ _ h => h
  · refine al_cons ?_ (al_cons ?_ (al_cons ?_ (al_cons ?_ (al_cons ?_ (al_cons ?_ (al_cons ?_ (al_cons ?_ (al_cons ?_ (al_cons ?_ (al_nil))))))))))
    · intro LL xx ac wc sg hst hwant QQ hgo
      have se6 : ac.eval (.tmp 6) = _ := ((sg.free 6 (by kernel_rfl)).trans so6)
      have sg6 := gt_of se6
      exact op_val hwant hgo hst _ (by simp only [execOp, nth]; go_simp <;> omega) rfl
    · intro LL xx ac wc sg hst hwant QQ hgo
      have H := Lib.hid hst
      refine hpA_load tybook_Book H rfl (sg.slot 0 (sg.anc 0 rfl)) hwant (by (repeat (first | exact List.Mem.head _ | apply List.Mem.tail))) (by rfl) rfl ?_
      exact hgo _ () _ (fun _ _ => rfl) rfl hst
    · intro LL xx ac wc sg hst hwant QQ hgo
      have se23 : ac.eval (.tmp 23) = _ := (sg.slot 1 (sg.anc 1 rfl))
      have sg23 := gt_of se23
      (try simp only [nth] at se23 sg23)
      refine op_call hwant hgo 11 #[.agg (bkA sb.conf sb.index sb.room (.slice sla sb.live.length slc) (.slice sda sb.done.length sdc) sb.modes)] (by simp only [execOp]; go_simp) (indexN sb sla slc sda sdc wc) ?_
      rintro er wd ⟨rfl, hof⟩
      exact ⟨_, (), rfl, fun _ _ => rfl, rfl, Hp.quiet hst hof⟩
    · intro LL xx ac wc sg hst hwant QQ hgo
      exact op_val hwant hgo hst _ (exec_move rfl ((sg.free 0 (by kernel_rfl)).trans so0)) rfl
    · intro LL xx ac wc sg hst hwant QQ hgo
      have se25 : ac.eval (.tmp 25) = _ := (sg.slot 3 (sg.anc 3 rfl))
      have sg25 := gt_of se25
      (try simp only [nth] at se25 sg25)
      exact op_val hwant hgo hst _ (by simp only [execOp, nth]; go_simp <;> omega) rfl
    · intro LL xx ac wc sg hst hwant QQ hgo
      have se26 : ac.eval (.tmp 26) = _ := (sg.slot 4 (sg.anc 4 rfl))
      have sg26 := gt_of se26
      (try simp only [nth] at se26 sg26)
      exact op_val hwant hgo hst _ (by simp only [execOp, nth]; go_simp <;> omega) rfl
    · intro LL xx ac wc sg hst hwant QQ hgo
      have se27 : ac.eval (.tmp 27) = _ := (sg.slot 5 (sg.anc 5 rfl))
      have sg27 := gt_of se27
      (try simp only [nth] at se27 sg27)
      exact op_val hwant hgo hst _ (by simp only [execOp, nth]; go_simp <;> omega) rfl
    · intro LL xx ac wc sg hst hwant QQ hgo
      have H := Lib.hid hst
      refine hpA_load tybook_Book H rfl (sg.slot 6 (sg.anc 6 rfl)) hwant (by (repeat (first | exact List.Mem.head _ | apply List.Mem.tail))) (by rfl) rfl ?_
      exact hgo _ () _ (fun _ _ => rfl) rfl hst
    · intro LL xx ac wc sg hst hwant QQ hgo
      have se29 : ac.eval (.tmp 29) = _ := (sg.slot 7 (sg.anc 7 rfl))
      have sg29 := gt_of se29
      (try simp only [nth] at se29 sg29)
      refine op_call hwant hgo 11 #[.agg (bkA b.conf b.index b.room (.slice la b.live.length lc) (.slice da b.done.length dc) b.modes)] (by simp only [execOp]; go_simp) (indexN b la lc da dc wc) ?_
      rintro er wd ⟨rfl, hof⟩
      exact ⟨_, (), rfl, fun _ _ => rfl, rfl, Hp.quiet hst hof⟩
    · intro LL xx ac wc sg hst hwant QQ hgo
      have se24 : ac.eval (.tmp 24) = _ := (sg.slot 2 (sg.anc 2 rfl))
      have sg24 := gt_of se24
      have se30 : ac.eval (.tmp 30) = _ := (sg.slot 8 (sg.anc 8 rfl))
      have sg30 := gt_of se30
      (try simp only [nth] at se24 sg24 se30 sg30)
      exact op_val hwant hgo hst _ (by simp only [execOp, nth]; go_simp <;> omega) rfl
  · exact skips [] (by kernel_rfl) (fun _ h => by cases h)
  · intro xx ac1 wz hfr hsl hst
    exact hfin ac1 wz (hfr.size.trans hz) hfr.defers (fr_keep hfr [22, 23, 24, 25, 26, 27, 28, 29, 30, 31] (by kernel_rfl)) (hsl 9 (by decide)) (Lib.hid hst)
set_option maxRecDepth 20000 in
theorem commitYes_r7 (v : Nat) (b : BookV) (la : Option Addr) (lc : Nat) (da : Option Addr) (dc : Nat) (kc : Cfg) (kr : Int) (now : Int) (ga : Option Addr) (gc : Nat) (ys : List ChgV) (tr : Int) (stl : Int) (sb : BookV) (sla : Option Addr) (slc : Nat) (sda : Option Addr) (sdc : Nat) (skc : Cfg) (skr : Int) (snow : Int) (nb : BookV) (nla : Option Addr) (nlc : Nat) (nda : Option Addr) (ndc : Nat) (x : ChgV) (nkc : Cfg) (nkr : Int) (b6 : Nat) (b7 : Nat) (b8 : Nat) (b9 : Nat) (hq : ((sb.index) != (b.index)) = false) (htr : (0 ≤ tr ∧ tr ≤ 1000) ∧ 0 ≤ stl ∧ stl ≤ 1000) (hyl : ys.length ≤ 1000) (ha : applyV b x = (nb, 0)) (hI : Hid (InvB b)) {wa wb : World} (H : Hid (Hp (v :: footA ga) wa wb [rB b9 82 (kyL nkc nkr), rB b8 40 (chL x), rB b7 33 (bkL nb.conf nb.index nb.room (.slice nla nb.live.length nlc) (.slice nda nb.done.length ndc) nb.modes), rB b6 84 (snL sb.conf sb.index sb.room (.slice sla sb.live.length slc) (.slice sda sb.done.length sdc) sb.modes skc skr snow), rB v 115 (vtL b.conf b.index b.room (.slice la b.live.length lc) (.slice da b.done.length dc) b.modes kc kr now (.slice ga ys.length gc) (tr + 1) stl), rA ga gc 40 11 (ys.map chgRow), rS la lc 9 (b.live.map rowOf), rS da dc 8 (b.done.map callRow), rS nla nlc 9 (nb.live.map rowOf), rS nda ndc 8 (nb.done.map callRow)])) (ac0 : Act) (hz : ac0.tmps.size = 77) (so0 : ac0.eval (.tmp 0) = .pointer (some ⟨v, 0, none⟩)) (so8 : ac0.eval (.tmp 8) = .pointer (some ⟨b8, 0, none⟩)) {QR : Exit → Act → World → Prop} (hfin : ∀ (b11 : Nat) (la7_6 : Option Addr) (lc7_6 : Nat) (da7_6 : Option Addr) (dc7_6 : Nat) (ac1 : Act) (wz : World), ac1.tmps.size = 77 → ac1.defers = ac0.defers → (∀ t, ([11, 12, 39, 40, 41, 42, 43, 44, 45, 46, 47, 48] : List Nat).contains t = false → ac1.eval (.tmp t) = ac0.eval (.tmp t)) → ac1.eval (.tmp 11) = .pointer (some ⟨b11, 0, none⟩) → ac1.eval (.tmp 12) = .int .i64 0 →  Hid (Hp (v :: footA ga) wa wz [rS la7_6 lc7_6 9 ((nb).live.map rowOf), rS da7_6 dc7_6 8 ((nb).done.map callRow), rB b11 33 (bkL ((nb).conf) ((nb).index) ((nb).room) (.slice la7_6 ((nb).live.length) lc7_6) (.slice da7_6 ((nb).done.length) dc7_6) ((nb).modes)), rB b9 82 (kyL nkc nkr), rB b8 40 (chL x), rB b7 33 (bkL nb.conf nb.index nb.room (.slice nla nb.live.length nlc) (.slice nda nb.done.length ndc) nb.modes), rB b6 84 (snL sb.conf sb.index sb.room (.slice sla sb.live.length slc) (.slice sda sb.done.length sdc) sb.modes skc skr snow), rB v 115 (vtL b.conf b.index b.room (.slice la b.live.length lc) (.slice da b.done.length dc) b.modes kc kr now (.slice ga ys.length gc) (tr + 1) stl), rA ga gc 40 11 (ys.map chgRow), rS la lc 9 (b.live.map rowOf), rS da dc 8 (b.done.map callRow), rS nla nlc 9 (nb.live.map rowOf), rS nda ndc 8 (nb.done.map callRow)]) → QR .normal ac1 wz) : (regAt Try.f35 7).wp Try.prog QR ac0 wb := by
  refine wp_region_st mixedP ⟨[0, 1, 2, 3, 4, 0, 5, 6, 7, 7, 0, 8, 9], by kernel_rfl⟩ [[], [0], [0, 1], [0, 1, 2], [0, 1, 2, 3], [], [0, 1, 2, 3, 4, 5], [0, 1, 2, 3, 4, 5, 6], [0, 1, 2, 3, 4, 5, 6, 7], [0, 1, 2, 3, 4, 5, 6, 7], [], [0, 1, 2, 3, 4, 5, 6, 7, 8, 10], [0, 1, 2, 3, 4, 5, 6, 7, 8, 9, 10, 11]] (by kernel_rfl) (by kernel_rfl) 77 hz (by kernel_rfl) (fun (xx : Nat × Option Addr × Nat × Option Addr × Nat) jx => match xx with | (b11, la7_6, lc7_6, da7_6, dc7_6) => nth [.pointer (some ⟨v, 0, none⟩), .pointer (some ⟨v, 0, none⟩), .pointer (some ⟨v, 0, none⟩), .pointer (some ⟨v, 0, none⟩), .agg (bkA b.conf b.index b.room (.slice la b.live.length lc) (.slice da b.done.length dc) b.modes), .agg (chA x), .tuple #[.agg (bkA ((nb).conf) ((nb).index) ((nb).room) (.slice la7_6 ((nb).live.length) lc7_6) (.slice da7_6 ((nb).done.length) dc7_6) ((nb).modes)), .int .i64 0], .tuple #[.agg (bkA ((nb).conf) ((nb).index) ((nb).room) (.slice la7_6 ((nb).live.length) lc7_6) (.slice da7_6 ((nb).done.length) dc7_6) ((nb).modes)), .int .i64 0], .agg (bkA ((nb).conf) ((nb).index) ((nb).room) (.slice la7_6 ((nb).live.length) lc7_6) (.slice da7_6 ((nb).done.length) dc7_6) ((nb).modes)), .int .i64 0, .pointer (some ⟨b11, 0, none⟩), undef, .int .i64 0] jx) (fun (LL : Nat → Bool) (xx : Nat × Option Addr × Nat × Option Addr × Nat) ww => match xx with | (b11, la7_6, lc7_6, da7_6, dc7_6) => Hp (v :: footA ga) wa ww (bif LL 10 then (bif LL 6 then (bif LL 11 then [rS la7_6 lc7_6 9 ((nb).live.map rowOf), rS da7_6 dc7_6 8 ((nb).done.map callRow), rB b11 33 (bkL ((nb).conf) ((nb).index) ((nb).room) (.slice la7_6 ((nb).live.length) lc7_6) (.slice da7_6 ((nb).done.length) dc7_6) ((nb).modes)), rB b9 82 (kyL nkc nkr), rB b8 40 (chL x), rB b7 33 (bkL nb.conf nb.index nb.room (.slice nla nb.live.length nlc) (.slice nda nb.done.length ndc) nb.modes), rB b6 84 (snL sb.conf sb.index sb.room (.slice sla sb.live.length slc) (.slice sda sb.done.length sdc) sb.modes skc skr snow), rB v 115 (vtL b.conf b.index b.room (.slice la b.live.length lc) (.slice da b.done.length dc) b.modes kc kr now (.slice ga ys.length gc) (tr + 1) stl), rA ga gc 40 11 (ys.map chgRow), rS la lc 9 (b.live.map rowOf), rS da dc 8 (b.done.map callRow), rS nla nlc 9 (nb.live.map rowOf), rS nda ndc 8 (nb.done.map callRow)] else [rS la7_6 lc7_6 9 ((nb).live.map rowOf), rS da7_6 dc7_6 8 ((nb).done.map callRow), rB b11 33 (bkL zeroF 0 0 (.slice none 0 0) (.slice none 0 0) ([0, 0, 0, 0])), rB b9 82 (kyL nkc nkr), rB b8 40 (chL x), rB b7 33 (bkL nb.conf nb.index nb.room (.slice nla nb.live.length nlc) (.slice nda nb.done.length ndc) nb.modes), rB b6 84 (snL sb.conf sb.index sb.room (.slice sla sb.live.length slc) (.slice sda sb.done.length sdc) sb.modes skc skr snow), rB v 115 (vtL b.conf b.index b.room (.slice la b.live.length lc) (.slice da b.done.length dc) b.modes kc kr now (.slice ga ys.length gc) (tr + 1) stl), rA ga gc 40 11 (ys.map chgRow), rS la lc 9 (b.live.map rowOf), rS da dc 8 (b.done.map callRow), rS nla nlc 9 (nb.live.map rowOf), rS nda ndc 8 (nb.done.map callRow)]) else [rB b11 33 (bkL zeroF 0 0 (.slice none 0 0) (.slice none 0 0) ([0, 0, 0, 0])), rB b9 82 (kyL nkc nkr), rB b8 40 (chL x), rB b7 33 (bkL nb.conf nb.index nb.room (.slice nla nb.live.length nlc) (.slice nda nb.done.length ndc) nb.modes), rB b6 84 (snL sb.conf sb.index sb.room (.slice sla sb.live.length slc) (.slice sda sb.done.length sdc) sb.modes skc skr snow), rB v 115 (vtL b.conf b.index b.room (.slice la b.live.length lc) (.slice da b.done.length dc) b.modes kc kr now (.slice ga ys.length gc) (tr + 1) stl), rA ga gc 40 11 (ys.map chgRow), rS la lc 9 (b.live.map rowOf), rS da dc 8 (b.done.map callRow), rS nla nlc 9 (nb.live.map rowOf), rS nda ndc 8 (nb.done.map callRow)]) else (bif LL 6 then [rS la7_6 lc7_6 9 ((nb).live.map rowOf), rS da7_6 dc7_6 8 ((nb).done.map callRow), rB b9 82 (kyL nkc nkr), rB b8 40 (chL x), rB b7 33 (bkL nb.conf nb.index nb.room (.slice nla nb.live.length nlc) (.slice nda nb.done.length ndc) nb.modes), rB b6 84 (snL sb.conf sb.index sb.room (.slice sla sb.live.length slc) (.slice sda sb.done.length sdc) sb.modes skc skr snow), rB v 115 (vtL b.conf b.index b.room (.slice la b.live.length lc) (.slice da b.done.length dc) b.modes kc kr now (.slice ga ys.length gc) (tr + 1) stl), rA ga gc 40 11 (ys.map chgRow), rS la lc 9 (b.live.map rowOf), rS da dc 8 (b.done.map callRow), rS nla nlc 9 (nb.live.map rowOf), rS nda ndc 8 (nb.done.map callRow)] else [rB b9 82 (kyL nkc nkr), rB b8 40 (chL x), rB b7 33 (bkL nb.conf nb.index nb.room (.slice nla nb.live.length nlc) (.slice nda nb.done.length ndc) nb.modes), rB b6 84 (snL sb.conf sb.index sb.room (.slice sla sb.live.length slc) (.slice sda sb.done.length sdc) sb.modes skc skr snow), rB v 115 (vtL b.conf b.index b.room (.slice la b.live.length lc) (.slice da b.done.length dc) b.modes kc kr now (.slice ga ys.length gc) (tr + 1) stl), rA ga gc 40 11 (ys.map chgRow), rS la lc 9 (b.live.map rowOf), rS da dc 8 (b.done.map callRow), rS nla nlc 9 (nb.live.map rowOf), rS nda ndc 8 (nb.done.map callRow)]))) (default, default, default, default, default) H.out.drew ?_ (steps_al ?_) ?_ ?_
  · intro L1 L2 xx ww hL sg
    have lh10 := hL 10 (by decide)
    have lh6 := hL 6 (by decide)
    have lh11 := hL 11 (by decide)
    simp only [lh10, lh6, lh11] at sg
    exact sg
  · refine al_cons ?_ (al_cons ?_ (al_cons ?_ (al_cons ?_ (al_cons ?_ (al_cons ?_ (al_cons ?_ (al_cons ?_ (al_cons ?_ (al_cons ?_ (al_cons ?_ (al_cons ?_ (al_cons ?_ (al_nil)))))))))))))
    · intro LL xx ac wc sg hst hwant QQ hgo
      obtain ⟨b11, la7_6, lc7_6, da7_6, dc7_6⟩ := xx
      exact op_val hwant hgo hst _ (exec_move rfl ((sg.free 0 (by kernel_rfl)).trans so0)) rfl
    · intro LL xx ac wc sg hst hwant QQ hgo
      obtain ⟨b11, la7_6, lc7_6, da7_6, dc7_6⟩ := xx
      have se40 : ac.eval (.tmp 40) = _ := (sg.slot 0 (sg.anc 0 rfl))
      have sg40 := gt_of se40
      (try simp only [nth] at se40 sg40)
      exact op_val hwant hgo hst _ (by simp only [execOp, nth]; go_simp <;> omega) rfl
    · intro LL xx ac wc sg hst hwant QQ hgo
      obtain ⟨b11, la7_6, lc7_6, da7_6, dc7_6⟩ := xx
      have se41 : ac.eval (.tmp 41) = _ := (sg.slot 1 (sg.anc 1 rfl))
      have sg41 := gt_of se41
      (try simp only [nth] at se41 sg41)
      exact op_val hwant hgo hst _ (by simp only [execOp, nth]; go_simp <;> omega) rfl
    · intro LL xx ac wc sg hst hwant QQ hgo
      obtain ⟨b11, la7_6, lc7_6, da7_6, dc7_6⟩ := xx
      have se42 : ac.eval (.tmp 42) = _ := (sg.slot 2 (sg.anc 2 rfl))
      have sg42 := gt_of se42
      (try simp only [nth] at se42 sg42)
      exact op_val hwant hgo hst _ (by simp only [execOp, nth]; go_simp <;> omega) rfl
    · intro LL xx ac wc sg hst hwant QQ hgo
      obtain ⟨b11, la7_6, lc7_6, da7_6, dc7_6⟩ := xx
      rcases Bool.eq_false_or_eq_true (LL 10) with lh10 | lh10
      · skip
        have H := Lib.hid hst
        simp only [lh10, sg.des 6 rfl, sg.des 11 rfl, cond_true, cond_false] at H
        refine hpA_load tybook_Book H rfl (sg.slot 3 (sg.anc 3 rfl)) hwant (by (repeat (first | exact List.Mem.head _ | apply List.Mem.tail))) (by rfl) rfl ?_
        exact hgo _ (b11, la7_6, lc7_6, da7_6, dc7_6) _ (fun _ _ => rfl) rfl hst
      · skip
        have H := Lib.hid hst
        simp only [lh10, sg.des 6 rfl, sg.des 11 rfl, cond_true, cond_false] at H
        refine hpA_load tybook_Book H rfl (sg.slot 3 (sg.anc 3 rfl)) hwant (by (repeat (first | exact List.Mem.head _ | apply List.Mem.tail))) (by rfl) rfl ?_
        exact hgo _ (b11, la7_6, lc7_6, da7_6, dc7_6) _ (fun _ _ => rfl) rfl hst
    · intro LL xx ac wc sg hst hwant QQ hgo
      obtain ⟨b11, la7_6, lc7_6, da7_6, dc7_6⟩ := xx
      rcases Bool.eq_false_or_eq_true (LL 10) with lh10 | lh10
      · skip
        have H := Lib.hid hst
        simp only [lh10, sg.des 6 rfl, sg.des 11 rfl, cond_true, cond_false] at H
        refine hpA_load tyapi_Change H rfl ((sg.free 8 (by kernel_rfl)).trans so8) hwant (by (repeat (first | exact List.Mem.head _ | apply List.Mem.tail))) (by rfl) rfl ?_
        exact hgo _ (b11, la7_6, lc7_6, da7_6, dc7_6) _ (fun _ _ => rfl) rfl hst
      · skip
        have H := Lib.hid hst
        simp only [lh10, sg.des 6 rfl, sg.des 11 rfl, cond_true, cond_false] at H
        refine hpA_load tyapi_Change H rfl ((sg.free 8 (by kernel_rfl)).trans so8) hwant (by (repeat (first | exact List.Mem.head _ | apply List.Mem.tail))) (by rfl) rfl ?_
        exact hgo _ (b11, la7_6, lc7_6, da7_6, dc7_6) _ (fun _ _ => rfl) rfl hst
    · intro LL xx ac wc sg hst hwant QQ hgo
      obtain ⟨b11, _, _, _, _⟩ := xx
      have se44 : ac.eval (.tmp 44) = _ := (sg.slot 4 (sg.anc 4 rfl))
      have sg44 := gt_of se44
      have se45 : ac.eval (.tmp 45) = _ := (sg.slot 5 (sg.anc 5 rfl))
      have sg45 := gt_of se45
      (try simp only [nth] at se44 sg44 se45 sg45)
      rcases Bool.eq_false_or_eq_true (LL 10) with lh10 | lh10
      · skip
        have H := Lib.hid hst
        simp only [lh10, sg.self, sg.des 11 rfl, cond_true, cond_false] at H
        refine op_call hwant hgo 16 #[.agg (bkA b.conf b.index b.room (.slice la b.live.length lc) (.slice da b.done.length dc) b.modes), .agg (chA x)] (by simp only [execOp]; go_simp) (by have h := applyC b la lc da dc x wc (hp_held H (by (repeat (first | exact List.Mem.head _ | apply List.Mem.tail)))) (hp_held H (by (repeat (first | exact List.Mem.head _ | apply List.Mem.tail)))) (Lib.hid hI.out.ok) ; rw [ha] at h; exact h) ?_
        rintro er wd ⟨la7_6, lc7_6, da7_6, dc7_6, rfl, hg⟩
        have H2 := hp_gotB H hg.2.2.2.2 hg.1 hg.2.1 (by decide) (by decide) hg.2.2.1 hg.2.2.2.1 (List.forall_mem_cons.2 ⟨(by (repeat (first | exact List.Mem.head _ | apply List.Mem.tail))), List.forall_mem_cons.2 ⟨(by (repeat (first | exact List.Mem.head _ | apply List.Mem.tail))), fun _ h => by cases h⟩⟩)
        exact ⟨_, (b11, la7_6, lc7_6, da7_6, dc7_6), rfl, (sg.agree (x' := (b11, la7_6, lc7_6, da7_6, dc7_6)) (n := 13) rfl (by (iterate 13 (refine ix_cons (by first | exact fun _ => rfl | exact no sg.self | exact no (sg.des _ rfl)) ?_)); exact ix_nil)), rfl, (by simp only [(show upd LL 6 10 = LL 10 from rfl), lh10, (show upd LL 6 6 = true from rfl), (show upd LL 6 11 = LL 11 from rfl), sg.des 11 rfl, cond_true, cond_false]; exact H2.out)⟩
      · skip
        have H := Lib.hid hst
        simp only [lh10, sg.self, sg.des 11 rfl, cond_true, cond_false] at H
        refine op_call hwant hgo 16 #[.agg (bkA b.conf b.index b.room (.slice la b.live.length lc) (.slice da b.done.length dc) b.modes), .agg (chA x)] (by simp only [execOp]; go_simp) (by have h := applyC b la lc da dc x wc (hp_held H (by (repeat (first | exact List.Mem.head _ | apply List.Mem.tail)))) (hp_held H (by (repeat (first | exact List.Mem.head _ | apply List.Mem.tail)))) (Lib.hid hI.out.ok) ; rw [ha] at h; exact h) ?_
        rintro er wd ⟨la7_6, lc7_6, da7_6, dc7_6, rfl, hg⟩
        have H2 := hp_gotB H hg.2.2.2.2 hg.1 hg.2.1 (by decide) (by decide) hg.2.2.1 hg.2.2.2.1 (List.forall_mem_cons.2 ⟨(by (repeat (first | exact List.Mem.head _ | apply List.Mem.tail))), List.forall_mem_cons.2 ⟨(by (repeat (first | exact List.Mem.head _ | apply List.Mem.tail))), fun _ h => by cases h⟩⟩)
        exact ⟨_, (b11, la7_6, lc7_6, da7_6, dc7_6), rfl, (sg.agree (x' := (b11, la7_6, lc7_6, da7_6, dc7_6)) (n := 13) rfl (by (iterate 13 (refine ix_cons (by first | exact fun _ => rfl | exact no sg.self | exact no (sg.des _ rfl)) ?_)); exact ix_nil)), rfl, (by simp only [(show upd LL 6 10 = LL 10 from rfl), lh10, (show upd LL 6 6 = true from rfl), (show upd LL 6 11 = LL 11 from rfl), sg.des 11 rfl, cond_true, cond_false]; exact H2.out)⟩
    · intro LL xx ac wc sg hst hwant QQ hgo
      obtain ⟨b11, la7_6, lc7_6, da7_6, dc7_6⟩ := xx
      exact op_val hwant hgo hst _ (exec_move rfl (sg.slot 6 (sg.anc 6 rfl))) rfl
    · intro LL xx ac wc sg hst hwant QQ hgo
      obtain ⟨b11, la7_6, lc7_6, da7_6, dc7_6⟩ := xx
      have se39 : ac.eval (.tmp 39) = _ := (sg.slot 7 (sg.anc 7 rfl))
      have sg39 := gt_of se39
      (try simp only [nth] at se39 sg39)
      exact op_val hwant hgo hst _ (by simp only [execOp, nth]; go_simp <;> omega) rfl
    · intro LL xx ac wc sg hst hwant QQ hgo
      obtain ⟨b11, la7_6, lc7_6, da7_6, dc7_6⟩ := xx
      have se39 : ac.eval (.tmp 39) = _ := (sg.slot 7 (sg.anc 7 rfl))
      have sg39 := gt_of se39
      (try simp only [nth] at se39 sg39)
      exact op_val hwant hgo hst _ (by simp only [execOp, nth]; go_simp <;> omega) rfl
    · intro LL xx ac wc sg hst hwant QQ hgo
      obtain ⟨_, la7_6, lc7_6, da7_6, dc7_6⟩ := xx
      rcases Bool.eq_false_or_eq_true (LL 6) with lh6 | lh6
      · skip
        have H := Lib.hid hst
        simp only [sg.self, lh6, sg.des 11 rfl, cond_true, cond_false] at H
        refine hpA_alloc tybook_Book H rfl rfl ?_
        intro wd b11 H2
        replace H2 := hp_front H2 12 rfl
        replace H2 := hp_front H2 12 rfl
        replace H2 := hp_front H2 12 rfl
        replace H2 := hp_front H2 12 rfl
        replace H2 := hp_front H2 12 rfl
        replace H2 := hp_front H2 12 rfl
        replace H2 := hp_front H2 12 rfl
        replace H2 := hp_front H2 12 rfl
        replace H2 := hp_front H2 12 rfl
        replace H2 := hp_front H2 12 rfl
        replace H2 := hp_front H2 10 rfl
        replace H2 := hp_front H2 12 rfl
        replace H2 := hp_front H2 12 rfl
        exact hgo _ (b11, la7_6, lc7_6, da7_6, dc7_6) _ (sg.agree (x' := (b11, la7_6, lc7_6, da7_6, dc7_6)) (n := 13) rfl (by (iterate 13 (refine ix_cons (by first | exact fun _ => rfl | exact no sg.self | exact no (sg.des _ rfl)) ?_)); exact ix_nil)) rfl (by simp only [(show upd LL 10 10 = true from rfl), (show upd LL 10 6 = LL 6 from rfl), lh6, (show upd LL 10 11 = LL 11 from rfl), sg.des 11 rfl, cond_true, cond_false]; exact H2.out)
      · skip
        have H := Lib.hid hst
        simp only [sg.self, lh6, sg.des 11 rfl, cond_true, cond_false] at H
        refine hpA_alloc tybook_Book H rfl rfl ?_
        intro wd b11 H2
        exact hgo _ (b11, la7_6, lc7_6, da7_6, dc7_6) _ (sg.agree (x' := (b11, la7_6, lc7_6, da7_6, dc7_6)) (n := 13) rfl (by (iterate 13 (refine ix_cons (by first | exact fun _ => rfl | exact no sg.self | exact no (sg.des _ rfl)) ?_)); exact ix_nil)) rfl (by simp only [(show upd LL 10 10 = true from rfl), (show upd LL 10 6 = LL 6 from rfl), lh6, (show upd LL 10 11 = LL 11 from rfl), sg.des 11 rfl, cond_true, cond_false]; exact H2.out)
    · intro LL xx ac wc sg hst hwant QQ hgo
      obtain ⟨b11, la7_6, lc7_6, da7_6, dc7_6⟩ := xx
      have H := Lib.hid hst
      simp only [sg.anc 10 rfl, sg.anc 6 rfl, sg.self, cond_true, cond_false] at H
      refine hpA_store tybook_Book H rfl rfl (sg.slot 10 (sg.anc 10 rfl)) (sg.slot 8 (sg.anc 8 rfl)) rfl (by repeat (first | apply Put.head | apply Put.tail)) (by simp [xA, xL, cA, cL, chA, chL, bkA, bkL, kyA, kyL, snA, snL, vtA, vtL]) (by simp [xA, xL, cA, cL, chA, chL, bkA, bkL, kyA, kyL, snA, snL, vtA, vtL, Value.oneCell']) (by first | rfl | (simp only [spl]; rfl)) rfl ?_
      intro wd H2
      exact hgo _ (b11, la7_6, lc7_6, da7_6, dc7_6) _ (sg.agree (x' := (b11, la7_6, lc7_6, da7_6, dc7_6)) (n := 13) rfl (by (iterate 13 (refine ix_cons (by first | exact fun _ => rfl | exact no sg.self | exact no (sg.des _ rfl)) ?_)); exact ix_nil)) rfl (by simp only [(show upd LL 11 10 = LL 10 from rfl), sg.anc 10 rfl, (show upd LL 11 6 = LL 6 from rfl), sg.anc 6 rfl, (show upd LL 11 11 = true from rfl), cond_true, cond_false]; exact H2.out)
    · intro LL xx ac wc sg hst hwant QQ hgo
      obtain ⟨b11, la7_6, lc7_6, da7_6, dc7_6⟩ := xx
      exact op_val hwant hgo hst _ (exec_assign rfl (sg.slot 9 (sg.anc 9 rfl))) rfl
  · exact skips [] (by kernel_rfl) (fun _ h => by cases h)
  · intro xx ac1 wz hfr hsl hst
    obtain ⟨b11, la7_6, lc7_6, da7_6, dc7_6⟩ := xx
    exact hfin b11 la7_6 lc7_6 da7_6 dc7_6 ac1 wz (hfr.size.trans hz) hfr.defers (fr_keep hfr [11, 12, 39, 40, 41, 42, 43, 44, 45, 46, 47, 48] (by kernel_rfl)) (hsl 10 (by decide)) (hsl 12 (by decide)) (Lib.hid hst)
set_option maxRecDepth 20000 in
theorem commitYes_r10 (v : Nat) (b : BookV) (la : Option Addr) (lc : Nat) (da : Option Addr) (dc : Nat) (kc : Cfg) (kr : Int) (now : Int) (ga : Option Addr) (gc : Nat) (ys : List ChgV) (tr : Int) (stl : Int) (sb : BookV) (sla : Option Addr) (slc : Nat) (sda : Option Addr) (sdc : Nat) (skc : Cfg) (skr : Int) (snow : Int) (nb : BookV) (nla : Option Addr) (nlc : Nat) (nda : Option Addr) (ndc : Nat) (x : ChgV) (nkc : Cfg) (nkr : Int) (b6 : Nat) (b7 : Nat) (b8 : Nat) (b9 : Nat) (b11 : Nat) (la7_6 : Option Addr) (lc7_6 : Nat) (da7_6 : Option Addr) (dc7_6 : Nat) (hq : ((sb.index) != (b.index)) = false) (htr : (0 ≤ tr ∧ tr ≤ 1000) ∧ 0 ≤ stl ∧ stl ≤ 1000) (hyl : ys.length ≤ 1000) (ha : applyV b x = (nb, 0)) {wa wb : World} (H : Hid (Hp (v :: footA ga) wa wb [rS la7_6 lc7_6 9 ((nb).live.map rowOf), rS da7_6 dc7_6 8 ((nb).done.map callRow), rB b11 33 (bkL ((nb).conf) ((nb).index) ((nb).room) (.slice la7_6 ((nb).live.length) lc7_6) (.slice da7_6 ((nb).done.length) dc7_6) ((nb).modes)), rB b9 82 (kyL nkc nkr), rB b8 40 (chL x), rB b7 33 (bkL nb.conf nb.index nb.room (.slice nla nb.live.length nlc) (.slice nda nb.done.length ndc) nb.modes), rB b6 84 (snL sb.conf sb.index sb.room (.slice sla sb.live.length slc) (.slice sda sb.done.length sdc) sb.modes skc skr snow), rB v 115 (vtL b.conf b.index b.room (.slice la b.live.length lc) (.slice da b.done.length dc) b.modes kc kr now (.slice ga ys.length gc) (tr + 1) stl), rA ga gc 40 11 (ys.map chgRow), rS la lc 9 (b.live.map rowOf), rS da dc 8 (b.done.map callRow), rS nla nlc 9 (nb.live.map rowOf), rS nda ndc 8 (nb.done.map callRow)])) (ac0 : Act) (hz : ac0.tmps.size = 77) (so0 : ac0.eval (.tmp 0) = .pointer (some ⟨v, 0, none⟩)) (so7 : ac0.eval (.tmp 7) = .pointer (some ⟨b7, 0, none⟩)) (so9 : ac0.eval (.tmp 9) = .pointer (some ⟨b9, 0, none⟩)) {QR : Exit → Act → World → Prop} (hfin : ∀ (ac1 : Act) (wz : World), ac1.tmps.size = 77 → ac1.defers = ac0.defers → (∀ t, ([57, 58, 59, 60, 61, 62, 63, 64, 65, 66] : List Nat).contains t = false → ac1.eval (.tmp t) = ac0.eval (.tmp t)) →  Hid (Hp (v :: footA ga) wa wz [rS la7_6 lc7_6 9 ((nb).live.map rowOf), rS da7_6 dc7_6 8 ((nb).done.map callRow), rB b11 33 (bkL ((nb).conf) ((nb).index) ((nb).room) (.slice la7_6 ((nb).live.length) lc7_6) (.slice da7_6 ((nb).done.length) dc7_6) ((nb).modes)), rB b9 82 (kyL nkc nkr), rB b8 40 (chL x), rB b7 33 (bkL nb.conf nb.index nb.room (.slice nla nb.live.length nlc) (.slice nda nb.done.length ndc) nb.modes), rB b6 84 (snL sb.conf sb.index sb.room (.slice sla sb.live.length slc) (.slice sda sb.done.length sdc) sb.modes skc skr snow), rB v 115 (vtL nb.conf nb.index nb.room (.slice nla nb.live.length nlc) (.slice nda nb.done.length ndc) nb.modes nkc nkr now (.slice ga ys.length gc) (tr + 1) stl), rA ga gc 40 11 (ys.map chgRow), rS la lc 9 (b.live.map rowOf), rS da dc 8 (b.done.map callRow), rS nla nlc 9 (nb.live.map rowOf), rS nda ndc 8 (nb.done.map callRow)]) → QR .normal ac1 wz) : (regAt Try.f35 10).wp Try.prog QR ac0 wb := by
  refine wp_region_st mixedP ⟨[0, 0, 0, 0, 1, 2, 3, 4, 5, 6, 7, 8], by kernel_rfl⟩ [[], [], [], [], [0, 2], [0, 2, 4], [0, 2, 4, 5], [0, 2, 4, 5, 6], [0, 1, 2, 3, 4, 5, 6, 7], [0, 1, 2, 3, 4, 5, 6, 7, 8], [0, 1, 2, 3, 4, 5, 6, 7, 8, 9], [0, 1, 2, 3, 4, 5, 6, 7, 8, 9, 10]] (by kernel_rfl) (by kernel_rfl) 77 hz (by kernel_rfl) (fun (xx : Unit) jx => nth [.pointer (some ⟨v, 0, none⟩), .pointer (some ⟨v, 0, none⟩), .agg (bkA nb.conf nb.index nb.room (.slice nla nb.live.length nlc) (.slice nda nb.done.length ndc) nb.modes), .agg (kyA nkc nkr), .pointer (some ⟨v, 0, none⟩), .pointer (some ⟨v, 0, none⟩), .pointer (some ⟨v, 0, none⟩), undef, .pointer (some ⟨v, 0, none⟩), .pointer (some ⟨v, 0, none⟩), .pointer (some ⟨v, 26, none⟩), undef] jx) (fun (LL : Nat → Bool) (xx : Unit) ww => Hp (v :: footA ga) wa ww (bif LL 7 then (bif LL 11 then [rS la7_6 lc7_6 9 ((nb).live.map rowOf), rS da7_6 dc7_6 8 ((nb).done.map callRow), rB b11 33 (bkL ((nb).conf) ((nb).index) ((nb).room) (.slice la7_6 ((nb).live.length) lc7_6) (.slice da7_6 ((nb).done.length) dc7_6) ((nb).modes)), rB b9 82 (kyL nkc nkr), rB b8 40 (chL x), rB b7 33 (bkL nb.conf nb.index nb.room (.slice nla nb.live.length nlc) (.slice nda nb.done.length ndc) nb.modes), rB b6 84 (snL sb.conf sb.index sb.room (.slice sla sb.live.length slc) (.slice sda sb.done.length sdc) sb.modes skc skr snow), rB v 115 (vtL nb.conf nb.index nb.room (.slice nla nb.live.length nlc) (.slice nda nb.done.length ndc) nb.modes nkc nkr now (.slice ga ys.length gc) (tr + 1) stl), rA ga gc 40 11 (ys.map chgRow), rS la lc 9 (b.live.map rowOf), rS da dc 8 (b.done.map callRow), rS nla nlc 9 (nb.live.map rowOf), rS nda ndc 8 (nb.done.map callRow)] else [rS la7_6 lc7_6 9 ((nb).live.map rowOf), rS da7_6 dc7_6 8 ((nb).done.map callRow), rB b11 33 (bkL ((nb).conf) ((nb).index) ((nb).room) (.slice la7_6 ((nb).live.length) lc7_6) (.slice da7_6 ((nb).done.length) dc7_6) ((nb).modes)), rB b9 82 (kyL nkc nkr), rB b8 40 (chL x), rB b7 33 (bkL nb.conf nb.index nb.room (.slice nla nb.live.length nlc) (.slice nda nb.done.length ndc) nb.modes), rB b6 84 (snL sb.conf sb.index sb.room (.slice sla sb.live.length slc) (.slice sda sb.done.length sdc) sb.modes skc skr snow), rB v 115 (vtL nb.conf nb.index nb.room (.slice nla nb.live.length nlc) (.slice nda nb.done.length ndc) nb.modes kc kr now (.slice ga ys.length gc) (tr + 1) stl), rA ga gc 40 11 (ys.map chgRow), rS la lc 9 (b.live.map rowOf), rS da dc 8 (b.done.map callRow), rS nla nlc 9 (nb.live.map rowOf), rS nda ndc 8 (nb.done.map callRow)]) else [rS la7_6 lc7_6 9 ((nb).live.map rowOf), rS da7_6 dc7_6 8 ((nb).done.map callRow), rB b11 33 (bkL ((nb).conf) ((nb).index) ((nb).room) (.slice la7_6 ((nb).live.length) lc7_6) (.slice da7_6 ((nb).done.length) dc7_6) ((nb).modes)), rB b9 82 (kyL nkc nkr), rB b8 40 (chL x), rB b7 33 (bkL nb.conf nb.index nb.room (.slice nla nb.live.length nlc) (.slice nda nb.done.length ndc) nb.modes), rB b6 84 (snL sb.conf sb.index sb.room (.slice sla sb.live.length slc) (.slice sda sb.done.length sdc) sb.modes skc skr snow), rB v 115 (vtL b.conf b.index b.room (.slice la b.live.length lc) (.slice da b.done.length dc) b.modes kc kr now (.slice ga ys.length gc) (tr + 1) stl), rA ga gc 40 11 (ys.map chgRow), rS la lc 9 (b.live.map rowOf), rS da dc 8 (b.done.map callRow), rS nla nlc 9 (nb.live.map rowOf), rS nda ndc 8 (nb.done.map callRow)])) () H.out.drew ?_ (steps_al ?_) ?_ ?_
  · intro L1 L2 xx ww hL sg
    have lh7 := hL 7 (by decide)
    have lh11 := hL 11 (by decide)
    simp only [lh7, lh11] at sg
    exact sg
  · refine al_cons ?_ (al_cons ?_ (al_cons ?_ (al_cons ?_ (al_cons ?_ (al_cons ?_ (al_cons ?_ (al_cons ?_ (al_cons ?_ (al_cons ?_ (al_cons ?_ (al_cons ?_ (al_nil))))))))))))
    · intro LL xx ac wc sg hst hwant QQ hgo
      exact op_val hwant hgo hst _ (exec_move rfl ((sg.free 0 (by kernel_rfl)).trans so0)) rfl
    · intro LL xx ac wc sg hst hwant QQ hgo
      exact op_val hwant hgo hst _ (exec_move rfl ((sg.free 0 (by kernel_rfl)).trans so0)) rfl
    · intro LL xx ac wc sg hst hwant QQ hgo
      have H := Lib.hid hst
      simp only [sg.des 7 rfl, sg.des 11 rfl, cond_true, cond_false] at H
      refine hpA_load tybook_Book H rfl ((sg.free 7 (by kernel_rfl)).trans so7) hwant (by (repeat (first | exact List.Mem.head _ | apply List.Mem.tail))) (by rfl) rfl ?_
      exact hgo _ () _ (fun _ _ => rfl) rfl hst
    · intro LL xx ac wc sg hst hwant QQ hgo
      rcases Bool.eq_false_or_eq_true (LL 7) with lh7 | lh7
      · skip
        have H := Lib.hid hst
        simp only [lh7, sg.des 11 rfl, cond_true, cond_false] at H
        refine hpA_load tykeys_Keys H rfl ((sg.free 9 (by kernel_rfl)).trans so9) hwant (by (repeat (first | exact List.Mem.head _ | apply List.Mem.tail))) (by rfl) rfl ?_
        exact hgo _ () _ (fun _ _ => rfl) rfl hst
      · skip
        have H := Lib.hid hst
        simp only [lh7, sg.des 11 rfl, cond_true, cond_false] at H
        refine hpA_load tykeys_Keys H rfl ((sg.free 9 (by kernel_rfl)).trans so9) hwant (by (repeat (first | exact List.Mem.head _ | apply List.Mem.tail))) (by rfl) rfl ?_
        exact hgo _ () _ (fun _ _ => rfl) rfl hst
    · intro LL xx ac wc sg hst hwant QQ hgo
      have se57 : ac.eval (.tmp 57) = _ := (sg.slot 0 (sg.anc 0 rfl))
      have sg57 := gt_of se57
      (try simp only [nth] at se57 sg57)
      exact op_val hwant hgo hst _ (by simp only [execOp, nth]; go_simp <;> omega) rfl
    · intro LL xx ac wc sg hst hwant QQ hgo
      have se61 : ac.eval (.tmp 61) = _ := (sg.slot 4 (sg.anc 4 rfl))
      have sg61 := gt_of se61
      (try simp only [nth] at se61 sg61)
      exact op_val hwant hgo hst _ (by simp only [execOp, nth]; go_simp <;> omega) rfl
    · intro LL xx ac wc sg hst hwant QQ hgo
      have se62 : ac.eval (.tmp 62) = _ := (sg.slot 5 (sg.anc 5 rfl))
      have sg62 := gt_of se62
      (try simp only [nth] at se62 sg62)
      exact op_val hwant hgo hst _ (by simp only [execOp, nth]; go_simp <;> omega) rfl
    · intro LL xx ac wc sg hst hwant QQ hgo
      have H := Lib.hid hst
      simp only [sg.self, sg.des 11 rfl, cond_true, cond_false] at H
      refine hpA_store tybook_Book H rfl rfl (sg.slot 6 (sg.anc 6 rfl)) (sg.slot 2 (sg.anc 2 rfl)) rfl (by repeat (first | apply Put.head | apply Put.tail)) (by simp [xA, xL, cA, cL, chA, chL, bkA, bkL, kyA, kyL, snA, snL, vtA, vtL]) (by simp [xA, xL, cA, cL, chA, chL, bkA, bkL, kyA, kyL, snA, snL, vtA, vtL, Value.oneCell']) (by first | rfl | (simp only [spl]; rfl)) rfl ?_
      intro wd H2
      exact hgo _ () _ (fun _ _ => rfl) rfl (by simp only [(show upd LL 7 7 = true from rfl), (show upd LL 7 11 = LL 11 from rfl), sg.des 11 rfl, cond_true, cond_false]; exact H2.out)
    · intro LL xx ac wc sg hst hwant QQ hgo
      have se58 : ac.eval (.tmp 58) = _ := (sg.slot 1 (sg.anc 1 rfl))
      have sg58 := gt_of se58
      (try simp only [nth] at se58 sg58)
      exact op_val hwant hgo hst _ (by simp only [execOp, nth]; go_simp <;> omega) rfl
    · intro LL xx ac wc sg hst hwant QQ hgo
      have se64 : ac.eval (.tmp 64) = _ := (sg.slot 8 (sg.anc 8 rfl))
      have sg64 := gt_of se64
      (try simp only [nth] at se64 sg64)
      exact op_val hwant hgo hst _ (by simp only [execOp, nth]; go_simp <;> omega) rfl
    · intro LL xx ac wc sg hst hwant QQ hgo
      have se65 : ac.eval (.tmp 65) = _ := (sg.slot 9 (sg.anc 9 rfl))
      have sg65 := gt_of se65
      (try simp only [nth] at se65 sg65)
      exact op_val hwant hgo hst _ (by simp only [execOp, nth]; go_simp <;> omega) rfl
    · intro LL xx ac wc sg hst hwant QQ hgo
      have H := Lib.hid hst
      simp only [sg.anc 7 rfl, sg.self, cond_true, cond_false] at H
      refine hpA_store tykeys_Keys H rfl rfl (sg.slot 10 (sg.anc 10 rfl)) (sg.slot 3 (sg.anc 3 rfl)) rfl (by repeat (first | apply Put.head | apply Put.tail)) (by simp [xA, xL, cA, cL, chA, chL, bkA, bkL, kyA, kyL, snA, snL, vtA, vtL]) (by simp [xA, xL, cA, cL, chA, chL, bkA, bkL, kyA, kyL, snA, snL, vtA, vtL, Value.oneCell']) (by first | rfl | (simp only [spl]; rfl)) rfl ?_
      intro wd H2
      exact hgo _ () _ (fun _ _ => rfl) rfl (by simp only [(show upd LL 11 7 = LL 7 from rfl), sg.anc 7 rfl, (show upd LL 11 11 = true from rfl), cond_true, cond_false]; exact H2.out)
  · exact skips [] (by kernel_rfl) (fun _ h => by cases h)
  · intro xx ac1 wz hfr hsl hst
    exact hfin ac1 wz (hfr.size.trans hz) hfr.defers (fr_keep hfr [57, 58, 59, 60, 61, 62, 63, 64, 65, 66] (by kernel_rfl)) (Lib.hid hst)
set_option maxRecDepth 20000 in
theorem commitYes_r11 (v : Nat) (b : BookV) (la : Option Addr) (lc : Nat) (da : Option Addr) (dc : Nat) (now : Int) (ga : Option Addr) (gc : Nat) (ys : List ChgV) (tr : Int) (stl : Int) (sb : BookV) (sla : Option Addr) (slc : Nat) (sda : Option Addr) (sdc : Nat) (skc : Cfg) (skr : Int) (snow : Int) (nb : BookV) (nla : Option Addr) (nlc : Nat) (nda : Option Addr) (ndc : Nat) (x : ChgV) (nkc : Cfg) (nkr : Int) (b6 : Nat) (b7 : Nat) (b8 : Nat) (b9 : Nat) (b11 : Nat) (la7_6 : Option Addr) (lc7_6 : Nat) (da7_6 : Option Addr) (dc7_6 : Nat) (hq : ((sb.index) != (b.index)) = false) (htr : (0 ≤ tr ∧ tr ≤ 1000) ∧ 0 ≤ stl ∧ stl ≤ 1000) (hyl : ys.length ≤ 1000) (ha : applyV b x = (nb, 0)) {wa wb : World} (H : Hid (Hp (v :: footA ga) wa wb [rS la7_6 lc7_6 9 ((nb).live.map rowOf), rS da7_6 dc7_6 8 ((nb).done.map callRow), rB b11 33 (bkL ((nb).conf) ((nb).index) ((nb).room) (.slice la7_6 ((nb).live.length) lc7_6) (.slice da7_6 ((nb).done.length) dc7_6) ((nb).modes)), rB b9 82 (kyL nkc nkr), rB b8 40 (chL x), rB b7 33 (bkL nb.conf nb.index nb.room (.slice nla nb.live.length nlc) (.slice nda nb.done.length ndc) nb.modes), rB b6 84 (snL sb.conf sb.index sb.room (.slice sla sb.live.length slc) (.slice sda sb.done.length sdc) sb.modes skc skr snow), rB v 115 (vtL nb.conf nb.index nb.room (.slice nla nb.live.length nlc) (.slice nda nb.done.length ndc) nb.modes nkc nkr now (.slice ga ys.length gc) (tr + 1) stl), rA ga gc 40 11 (ys.map chgRow), rS la lc 9 (b.live.map rowOf), rS da dc 8 (b.done.map callRow), rS nla nlc 9 (nb.live.map rowOf), rS nda ndc 8 (nb.done.map callRow)])) (ac0 : Act) (hz : ac0.tmps.size = 77) (so0 : ac0.eval (.tmp 0) = .pointer (some ⟨v, 0, none⟩)) (so8 : ac0.eval (.tmp 8) = .pointer (some ⟨b8, 0, none⟩)) {QR : Exit → Act → World → Prop} (hfin : ∀ (b73 : Nat) (a74 : Option Addr) (c74 : Nat) (ac1 : Act) (wz : World), ac1.tmps.size = 77 → ac1.defers = ac0.defers → (∀ t, ([67, 68, 69, 70, 71, 72, 73, 74, 75, 76] : List Nat).contains t = false → ac1.eval (.tmp t) = ac0.eval (.tmp t)) →  Hid (Hp (v :: footA ga) wa wz [rB b73 40 (chL x), rS la7_6 lc7_6 9 ((nb).live.map rowOf), rS da7_6 dc7_6 8 ((nb).done.map callRow), rB b11 33 (bkL ((nb).conf) ((nb).index) ((nb).room) (.slice la7_6 ((nb).live.length) lc7_6) (.slice da7_6 ((nb).done.length) dc7_6) ((nb).modes)), rB b9 82 (kyL nkc nkr), rB b8 40 (chL x), rB b7 33 (bkL nb.conf nb.index nb.room (.slice nla nb.live.length nlc) (.slice nda nb.done.length ndc) nb.modes), rB b6 84 (snL sb.conf sb.index sb.room (.slice sla sb.live.length slc) (.slice sda sb.done.length sdc) sb.modes skc skr snow), rB v 115 (vtL nb.conf nb.index nb.room (.slice nla nb.live.length nlc) (.slice nda nb.done.length ndc) nb.modes nkc nkr now (.slice a74 ((ys ++ [x]).length) c74) (tr + 1) stl), rA a74 c74 40 11 ((ys ++ [x]).map chgRow), rS la lc 9 (b.live.map rowOf), rS da dc 8 (b.done.map callRow), rS nla nlc 9 (nb.live.map rowOf), rS nda ndc 8 (nb.done.map callRow)]) → QR .normal ac1 wz) : (regAt Try.f35 11).wp Try.prog QR ac0 wb := by
  refine wp_region_st mixedP ⟨[0, 0, 1, 2, 3, 0, 1, 4, 5, 6, 7], by kernel_rfl⟩ [[], [], [1], [1, 2], [1, 2, 3], [], [5], [1, 2, 3, 4, 5, 6], [0, 1, 2, 3, 4, 5, 6, 7], [0, 1, 2, 3, 4, 5, 6, 7, 8], [0, 1, 2, 3, 4, 5, 6, 7, 8, 9]] (by kernel_rfl) (by kernel_rfl) 77 hz (by kernel_rfl) (fun (xx : Nat × Option Addr × Nat) jx => match xx with | (b73, a74, c74) => nth [.pointer (some ⟨v, 0, none⟩), .pointer (some ⟨v, 0, none⟩), .pointer (some ⟨v, 0, none⟩), .pointer (some ⟨v, 47, none⟩), .slice ga ys.length gc, .agg (chA x), .slice (some ⟨b73, 0, none⟩) 1 1, .slice a74 ((ys ++ [x]).length) c74, .pointer (some ⟨v, 0, none⟩), .pointer (some ⟨v, 47, none⟩), undef] jx) (fun (LL : Nat → Bool) (xx : Nat × Option Addr × Nat) ww => match xx with | (b73, a74, c74) => Hp (v :: footA ga) wa ww (bif LL 6 then (bif LL 7 then (bif LL 10 then [rB b73 40 (chL x), rS la7_6 lc7_6 9 ((nb).live.map rowOf), rS da7_6 dc7_6 8 ((nb).done.map callRow), rB b11 33 (bkL ((nb).conf) ((nb).index) ((nb).room) (.slice la7_6 ((nb).live.length) lc7_6) (.slice da7_6 ((nb).done.length) dc7_6) ((nb).modes)), rB b9 82 (kyL nkc nkr), rB b8 40 (chL x), rB b7 33 (bkL nb.conf nb.index nb.room (.slice nla nb.live.length nlc) (.slice nda nb.done.length ndc) nb.modes), rB b6 84 (snL sb.conf sb.index sb.room (.slice sla sb.live.length slc) (.slice sda sb.done.length sdc) sb.modes skc skr snow), rB v 115 (vtL nb.conf nb.index nb.room (.slice nla nb.live.length nlc) (.slice nda nb.done.length ndc) nb.modes nkc nkr now (.slice a74 ((ys ++ [x]).length) c74) (tr + 1) stl), rA a74 c74 40 11 ((ys ++ [x]).map chgRow), rS la lc 9 (b.live.map rowOf), rS da dc 8 (b.done.map callRow), rS nla nlc 9 (nb.live.map rowOf), rS nda ndc 8 (nb.done.map callRow)] else [rB b73 40 (chL x), rS la7_6 lc7_6 9 ((nb).live.map rowOf), rS da7_6 dc7_6 8 ((nb).done.map callRow), rB b11 33 (bkL ((nb).conf) ((nb).index) ((nb).room) (.slice la7_6 ((nb).live.length) lc7_6) (.slice da7_6 ((nb).done.length) dc7_6) ((nb).modes)), rB b9 82 (kyL nkc nkr), rB b8 40 (chL x), rB b7 33 (bkL nb.conf nb.index nb.room (.slice nla nb.live.length nlc) (.slice nda nb.done.length ndc) nb.modes), rB b6 84 (snL sb.conf sb.index sb.room (.slice sla sb.live.length slc) (.slice sda sb.done.length sdc) sb.modes skc skr snow), rB v 115 (vtL nb.conf nb.index nb.room (.slice nla nb.live.length nlc) (.slice nda nb.done.length ndc) nb.modes nkc nkr now (.slice ga ys.length gc) (tr + 1) stl), rA a74 c74 40 11 ((ys ++ [x]).map chgRow), rS la lc 9 (b.live.map rowOf), rS da dc 8 (b.done.map callRow), rS nla nlc 9 (nb.live.map rowOf), rS nda ndc 8 (nb.done.map callRow)]) else [rB b73 40 (chL x), rS la7_6 lc7_6 9 ((nb).live.map rowOf), rS da7_6 dc7_6 8 ((nb).done.map callRow), rB b11 33 (bkL ((nb).conf) ((nb).index) ((nb).room) (.slice la7_6 ((nb).live.length) lc7_6) (.slice da7_6 ((nb).done.length) dc7_6) ((nb).modes)), rB b9 82 (kyL nkc nkr), rB b8 40 (chL x), rB b7 33 (bkL nb.conf nb.index nb.room (.slice nla nb.live.length nlc) (.slice nda nb.done.length ndc) nb.modes), rB b6 84 (snL sb.conf sb.index sb.room (.slice sla sb.live.length slc) (.slice sda sb.done.length sdc) sb.modes skc skr snow), rB v 115 (vtL nb.conf nb.index nb.room (.slice nla nb.live.length nlc) (.slice nda nb.done.length ndc) nb.modes nkc nkr now (.slice ga ys.length gc) (tr + 1) stl), rA ga gc 40 11 (ys.map chgRow), rS la lc 9 (b.live.map rowOf), rS da dc 8 (b.done.map callRow), rS nla nlc 9 (nb.live.map rowOf), rS nda ndc 8 (nb.done.map callRow)]) else [rS la7_6 lc7_6 9 ((nb).live.map rowOf), rS da7_6 dc7_6 8 ((nb).done.map callRow), rB b11 33 (bkL ((nb).conf) ((nb).index) ((nb).room) (.slice la7_6 ((nb).live.length) lc7_6) (.slice da7_6 ((nb).done.length) dc7_6) ((nb).modes)), rB b9 82 (kyL nkc nkr), rB b8 40 (chL x), rB b7 33 (bkL nb.conf nb.index nb.room (.slice nla nb.live.length nlc) (.slice nda nb.done.length ndc) nb.modes), rB b6 84 (snL sb.conf sb.index sb.room (.slice sla sb.live.length slc) (.slice sda sb.done.length sdc) sb.modes skc skr snow), rB v 115 (vtL nb.conf nb.index nb.room (.slice nla nb.live.length nlc) (.slice nda nb.done.length ndc) nb.modes nkc nkr now (.slice ga ys.length gc) (tr + 1) stl), rA ga gc 40 11 (ys.map chgRow), rS la lc 9 (b.live.map rowOf), rS da dc 8 (b.done.map callRow), rS nla nlc 9 (nb.live.map rowOf), rS nda ndc 8 (nb.done.map callRow)])) (default, default, default) H.out.drew ?_ (steps_al ?_) ?_ ?_
  · intro L1 L2 xx ww hL sg
    have lh6 := hL 6 (by decide)
    have lh7 := hL 7 (by decide)
    have lh10 := hL 10 (by decide)
    simp only [lh6, lh7, lh10] at sg
    exact sg
  · refine al_cons ?_ (al_cons ?_ (al_cons ?_ (al_cons ?_ (al_cons ?_ (al_cons ?_ (al_cons ?_ (al_cons ?_ (al_cons ?_ (al_cons ?_ (al_cons ?_ (al_nil)))))))))))
    · intro LL xx ac wc sg hst hwant QQ hgo
      obtain ⟨b73, a74, c74⟩ := xx
      exact op_val hwant hgo hst _ (exec_move rfl ((sg.free 0 (by kernel_rfl)).trans so0)) rfl
    · intro LL xx ac wc sg hst hwant QQ hgo
      obtain ⟨b73, a74, c74⟩ := xx
      exact op_val hwant hgo hst _ (exec_move rfl ((sg.free 0 (by kernel_rfl)).trans so0)) rfl
    · intro LL xx ac wc sg hst hwant QQ hgo
      obtain ⟨b73, a74, c74⟩ := xx
      have se68 : ac.eval (.tmp 68) = _ := (sg.slot 1 (sg.anc 1 rfl))
      have sg68 := gt_of se68
      (try simp only [nth] at se68 sg68)
      exact op_val hwant hgo hst _ (by simp only [execOp, nth]; go_simp <;> omega) rfl
    · intro LL xx ac wc sg hst hwant QQ hgo
      obtain ⟨b73, a74, c74⟩ := xx
      have se69 : ac.eval (.tmp 69) = _ := (sg.slot 2 (sg.anc 2 rfl))
      have sg69 := gt_of se69
      (try simp only [nth] at se69 sg69)
      exact op_val hwant hgo hst _ (by simp only [execOp, nth]; go_simp <;> omega) rfl
    · intro LL xx ac wc sg hst hwant QQ hgo
      obtain ⟨b73, a74, c74⟩ := xx
      rcases Bool.eq_false_or_eq_true (LL 6) with lh6 | lh6
      · skip
        have H := Lib.hid hst
        simp only [lh6, sg.des 7 rfl, sg.des 10 rfl, cond_true, cond_false] at H
        refine hpA_load1 tyS_api_Change H rfl (sg.slot 3 (sg.anc 3 rfl)) hwant (by (repeat (first | exact List.Mem.head _ | apply List.Mem.tail))) (by rfl) ?_
        exact hgo _ (b73, a74, c74) _ (fun _ _ => rfl) rfl hst
      · skip
        have H := Lib.hid hst
        simp only [lh6, sg.des 7 rfl, sg.des 10 rfl, cond_true, cond_false] at H
        refine hpA_load1 tyS_api_Change H rfl (sg.slot 3 (sg.anc 3 rfl)) hwant (by (repeat (first | exact List.Mem.head _ | apply List.Mem.tail))) (by rfl) ?_
        exact hgo _ (b73, a74, c74) _ (fun _ _ => rfl) rfl hst
    · intro LL xx ac wc sg hst hwant QQ hgo
      obtain ⟨b73, a74, c74⟩ := xx
      have H := Lib.hid hst
      simp only [sg.des 6 rfl, sg.des 7 rfl, sg.des 10 rfl, cond_true, cond_false] at H
      refine hpA_load tyapi_Change H rfl ((sg.free 8 (by kernel_rfl)).trans so8) hwant (by (repeat (first | exact List.Mem.head _ | apply List.Mem.tail))) (by rfl) rfl ?_
      exact hgo _ (b73, a74, c74) _ (fun _ _ => rfl) rfl hst
    · intro LL xx ac wc sg hst hwant QQ hgo
      obtain ⟨_, a74, c74⟩ := xx
      have se72 : ac.eval (.tmp 72) = _ := (sg.slot 5 (sg.anc 5 rfl))
      have sg72 := gt_of se72
      (try simp only [nth] at se72 sg72)
      (try simp only [xA, xL, cA, cL, chA, chL, bkA, bkL, kyA, kyL, snA, snL, vtA, vtL] at se72 sg72)
      have H := Lib.hid hst
      simp only [sg.self, sg.des 7 rfl, sg.des 10 rfl, cond_true, cond_false] at H
      refine hpA_bslice (cs := (chL x)) Try.underlying35 tyapi_Change H rfl rfl (by decide) (by decide) (by first | (go_simp; rfl) | rfl | (simp; rfl)) ?_
      intro wd b73 H2
      exact hgo _ (b73, a74, c74) _ (sg.agree (x' := (b73, a74, c74)) (n := 11) rfl (by (iterate 11 (refine ix_cons (by first | exact fun _ => rfl | exact no sg.self | exact no (sg.des _ rfl)) ?_)); exact ix_nil)) rfl (by simp only [(show upd LL 6 6 = true from rfl), (show upd LL 6 7 = LL 7 from rfl), sg.des 7 rfl, (show upd LL 6 10 = LL 10 from rfl), sg.des 10 rfl, cond_true, cond_false]; exact H2.out)
    · intro LL xx ac wc sg hst hwant QQ hgo
      obtain ⟨b73, _, _⟩ := xx
      have H := Lib.hid hst
      simp only [sg.anc 6 rfl, sg.self, sg.des 10 rfl, cond_true, cond_false] at H
      refine hp_append (news := [chgRow x]) elChg H rfl rfl 9 rfl (sg.slot 4 (sg.anc 4 rfl)) (by simp) (sg.slot 6 (sg.anc 6 rfl)) rfl (hp_single (e := 40) H (by (repeat (first | exact List.Mem.head _ | apply List.Mem.tail))) rfl (by simp [chgRow, Value.oneCell'])) (by simp; omega) (by decide) ?_
      intro wd a74 c74 H2
      rw [show ys.map chgRow ++ [chgRow x] = (ys ++ [x]).map chgRow by simp] at H2 ⊢
      rw [List.length_map]
      exact hgo _ (b73, a74, c74) _ (sg.agree (x' := (b73, a74, c74)) (n := 11) rfl (by (iterate 11 (refine ix_cons (by first | exact fun _ => rfl | exact no sg.self | exact no (sg.des _ rfl)) ?_)); exact ix_nil)) rfl (by simp only [(show upd LL 7 6 = LL 6 from rfl), sg.anc 6 rfl, (show upd LL 7 7 = true from rfl), (show upd LL 7 10 = LL 10 from rfl), sg.des 10 rfl, cond_true, cond_false]; exact H2.out)
    · intro LL xx ac wc sg hst hwant QQ hgo
      obtain ⟨b73, a74, c74⟩ := xx
      have se67 : ac.eval (.tmp 67) = _ := (sg.slot 0 (sg.anc 0 rfl))
      have sg67 := gt_of se67
      (try simp only [nth] at se67 sg67)
      exact op_val hwant hgo hst _ (by simp only [execOp, nth]; go_simp <;> omega) rfl
    · intro LL xx ac wc sg hst hwant QQ hgo
      obtain ⟨b73, a74, c74⟩ := xx
      have se75 : ac.eval (.tmp 75) = _ := (sg.slot 8 (sg.anc 8 rfl))
      have sg75 := gt_of se75
      (try simp only [nth] at se75 sg75)
      exact op_val hwant hgo hst _ (by simp only [execOp, nth]; go_simp <;> omega) rfl
    · intro LL xx ac wc sg hst hwant QQ hgo
      obtain ⟨b73, a74, c74⟩ := xx
      have H := Lib.hid hst
      simp only [sg.anc 6 rfl, sg.anc 7 rfl, sg.self, cond_true, cond_false] at H
      refine hpA_store1 tyS_api_Change H rfl rfl (sg.slot 9 (sg.anc 9 rfl)) (sg.slot 7 (sg.anc 7 rfl)) (by rfl) (by repeat (first | apply Put.head | apply Put.tail)) (by simp [xA, xL, cA, cL, chA, chL, bkA, bkL, kyA, kyL, snA, snL, vtA, vtL]) (by first | rfl | (simp [xA, xL, cA, cL, chA, chL, bkA, bkL, kyA, kyL, snA, snL, vtA, vtL, Value.oneCell'])) (by rfl) rfl ?_
      intro wd H2
      exact hgo _ (b73, a74, c74) _ (sg.agree (x' := (b73, a74, c74)) (n := 11) rfl (by (iterate 11 (refine ix_cons (by first | exact fun _ => rfl | exact no sg.self | exact no (sg.des _ rfl)) ?_)); exact ix_nil)) rfl (by simp only [(show upd LL 10 6 = LL 6 from rfl), sg.anc 6 rfl, (show upd LL 10 7 = LL 7 from rfl), sg.anc 7 rfl, (show upd LL 10 10 = true from rfl), cond_true, cond_false]; exact H2.out)
  · exact skips [] (by kernel_rfl) (fun _ h => by cases h)
  · intro xx ac1 wz hfr hsl hst
    obtain ⟨b73, a74, c74⟩ := xx
    exact hfin b73 a74 c74 ac1 wz (hfr.size.trans hz) hfr.defers (fr_keep hfr [67, 68, 69, 70, 71, 72, 73, 74, 75, 76] (by kernel_rfl)) (Lib.hid hst)
set_option maxHeartbeats 16000000 in
set_option maxRecDepth 20000 in
theorem commitYes (v : Nat) (b : BookV) (la : Option Addr) (lc : Nat) (da : Option Addr) (dc : Nat) (kc : Cfg) (kr : Int) (now : Int) (ga : Option Addr) (gc : Nat) (ys : List ChgV) (tr : Int) (stl : Int) (sb : BookV) (sla : Option Addr) (slc : Nat) (sda : Option Addr) (sdc : Nat) (skc : Cfg) (skr : Int) (snow : Int) (nb : BookV) (nla : Option Addr) (nlc : Nat) (nda : Option Addr) (ndc : Nat) (x : ChgV) (nkc : Cfg) (nkr : Int) (w : World) (HH : Hid (Hp (v :: footA ga) w w [rB v 115 (vtL b.conf b.index b.room (.slice la b.live.length lc) (.slice da b.done.length dc) b.modes kc kr now (.slice ga ys.length gc) tr stl), rA ga gc 40 11 (ys.map chgRow), rS la lc 9 (b.live.map rowOf), rS da dc 8 (b.done.map callRow), rS nla nlc 9 (nb.live.map rowOf), rS nda ndc 8 (nb.done.map callRow)])) (htr : (0 ≤ tr ∧ tr ≤ 1000) ∧ 0 ≤ stl ∧ stl ≤ 1000) (hyl : ys.length ≤ 1000) (hq : ((sb.index) != (b.index)) = false) (ha : applyV b x = (nb, 0)) (hI : Hid (InvB b)) (hJ : Hid (InvB nb)) : Calls Try.prog 35 #[.pointer (some ⟨v, 0, none⟩), .agg (snA sb.conf sb.index sb.room (.slice sla sb.live.length slc) (.slice sda sb.done.length sdc) sb.modes skc skr snow), .agg (bkA nb.conf nb.index nb.room (.slice nla nb.live.length nlc) (.slice nda nb.done.length ndc) nb.modes), .agg (chA x), .agg (kyA nkc nkr)] w fun e w' => ∃ ga' gc', e = .returned (.int .i64 0) ∧ Hid (Hp (v :: footA ga) w w' [rB v 115 (vtL nb.conf nb.index nb.room (.slice nla nb.live.length nlc) (.slice nda nb.done.length ndc) nb.modes nkc nkr now (.slice ga' ((ys ++ [x]).length) gc') (tr + 1) stl), rA ga' gc' 40 11 ((ys ++ [x]).map chgRow), rS la lc 9 (b.live.map rowOf), rS da dc 8 (b.done.map callRow), rS nla nlc 9 (nb.live.map rowOf), rS nda ndc 8 (nb.done.map callRow)]) := by
 have H := Lib.hid (Hp.start [] w)
 have H := HH
 clear HH
 refine wStart (args := [.pointer (some ⟨v, 0, none⟩), .agg (snA sb.conf sb.index sb.room (.slice sla sb.live.length slc) (.slice sda sb.done.length sdc) sb.modes skc skr snow), .agg (bkA nb.conf nb.index nb.room (.slice nla nb.live.length nlc) (.slice nda nb.done.length ndc) nb.modes), .agg (chA x), .agg (kyA nkc nkr)]) Try.func35 rfl rfl rfl H ?_
 clear H
 show Wk 77 _ _ [(0, .pointer (some ⟨v, 0, none⟩)), (1, .agg (snA sb.conf sb.index sb.room (.slice sla sb.live.length slc) (.slice sda sb.done.length sdc) sb.modes skc skr snow)), (2, .agg (bkA nb.conf nb.index nb.room (.slice nla nb.live.length nlc) (.slice nda nb.done.length ndc) nb.modes)), (3, .agg (chA x)), (4, .agg (kyA nkc nkr))] _ _
 refine wSeqK fun KK1 hK1 => ?_
 refine wReg ?_
 refine wBx rfl rfl rfl fun b6 => ?_
 refine wBx rfl rfl rfl fun b7 => ?_
 refine wBx rfl rfl rfl fun b8 => ?_
 refine wBx rfl rfl rfl fun b9 => ?_
 refine p_commitYes rfl ?_
 refine wN ?_
 refine tN (wKK hK1 ?_)
 refine wSeqK fun KK2 hK2 => ?_
 refine wSeqK fun KK3 hK3 => ?_
 refine wReg ?_
 refine p_commitYes rfl ?_
 refine wE (.bool false) rfl rfl rfl (fun aa ww hs _ => by exact exec_pnil_eql rfl (hs _ _ rfl) rfl Try.underlying75) ?_
 refine wN ?_
 refine tN (wKK hK3 ?_)
 refine wCf rfl ?_
 refine wSk ?_
 refine tN (wKK hK2 ?_)
 refine wSeqK fun KK4 hK4 => ?_
 refine wReg ?_
 iterate 3 refine p_commitYes rfl ?_
 refine wLd rfl tyint 4 rfl rfl ?_
 refine p_commitYes rfl ?_
 refine wI 19 rfl (IntWalk.i64_in _ (by omega)) ?_
 iterate 2 refine p_commitYes rfl ?_
 refine wSt rfl tyint 4 rfl rfl rfl rfl ?_
 refine wN ?_
 refine tN (wKK hK4 ?_)
 refine wSeqK fun KK5 hK5 => ?_
 refine wSeqK fun KK6 hK6 => ?_
 intro aa ww nn dd hs H
 refine commitYes_r4 v b la lc da dc kc kr now ga gc ys tr stl sb sla slc sda sdc skc skr snow nb nla nlc nda ndc x nkc nkr b6 b7 b8 b9 hq htr hyl ha H aa nn (hs 0 _ rfl) (hs 6 _ rfl) ?_
 intro ab wv nn2 dd2 kp o31 H2
 refine wIn nn2 (dd2.trans dd) (Sat.cons (Sat.cons (Sat.cons (Sat.cons (Sat.cons (Sat.cons (Sat.cons (Sat.cons (Sat.cons (Sat.cons (Sat.cons (Sat.cons (sat_nil ab) ((kp 14 rfl).trans (hs 14 _ rfl))) ((kp 10 rfl).trans (hs 10 _ rfl))) ((kp 9 rfl).trans (hs 9 _ rfl))) ((kp 8 rfl).trans (hs 8 _ rfl))) ((kp 7 rfl).trans (hs 7 _ rfl))) ((kp 6 rfl).trans (hs 6 _ rfl))) ((kp 4 rfl).trans (hs 4 _ rfl))) ((kp 3 rfl).trans (hs 3 _ rfl))) ((kp 2 rfl).trans (hs 2 _ rfl))) ((kp 1 rfl).trans (hs 1 _ rfl))) ((kp 0 rfl).trans (hs 0 _ rfl))) o31) H2 ?_
 clear hs H kp H2 dd dd2 nn nn2 o31
 refine tN (wKK hK6 ?_)
 refine wCf rfl ?_
 refine wSk ?_
 refine tN (wKK hK5 ?_)
 refine wSeqK fun KK7 hK7 => ?_
 refine wSeqK fun KK8 hK8 => ?_
 intro aa ww nn dd hs H
 refine commitYes_r7 v b la lc da dc kc kr now ga gc ys tr stl sb sla slc sda sdc skc skr snow nb nla nlc nda ndc x nkc nkr b6 b7 b8 b9 hq htr hyl ha hI H aa nn (hs 0 _ rfl) (hs 8 _ rfl) ?_
 intro b11 la7_6 lc7_6 da7_6 dc7_6 ab wv nn2 dd2 kp o11 o12 H2
 refine wIn nn2 (dd2.trans dd) (Sat.cons (Sat.cons (Sat.cons (Sat.cons (Sat.cons (Sat.cons (Sat.cons (Sat.cons (Sat.cons (Sat.cons (Sat.cons (Sat.cons (Sat.cons (Sat.cons (sat_nil ab) ((kp 31 rfl).trans (hs 31 _ rfl))) ((kp 14 rfl).trans (hs 14 _ rfl))) ((kp 10 rfl).trans (hs 10 _ rfl))) ((kp 9 rfl).trans (hs 9 _ rfl))) ((kp 8 rfl).trans (hs 8 _ rfl))) ((kp 7 rfl).trans (hs 7 _ rfl))) ((kp 6 rfl).trans (hs 6 _ rfl))) ((kp 4 rfl).trans (hs 4 _ rfl))) ((kp 3 rfl).trans (hs 3 _ rfl))) ((kp 2 rfl).trans (hs 2 _ rfl))) ((kp 1 rfl).trans (hs 1 _ rfl))) ((kp 0 rfl).trans (hs 0 _ rfl))) o12) o11) H2 ?_
 clear hs H kp H2 dd dd2 nn nn2 o11 o12
 refine tN (wKK hK8 ?_)
 refine wSeqK fun KK9 hK9 => ?_
 refine wReg ?_
 iterate 3 refine p_commitYes rfl ?_
 refine wLr rfl tybook_Book 2 rfl (bkL ((nb).conf) ((nb).index) ((nb).room) (.slice la7_6 ((nb).live.length) lc7_6) (.slice da7_6 ((nb).done.length) dc7_6) ((nb).modes)) rfl rfl ?_
 refine wLr rfl tybook_Book 5 rfl (bkL nb.conf nb.index nb.room (.slice nla nb.live.length nlc) (.slice nda nb.done.length ndc) nb.modes) rfl rfl ?_
 refine wQ (l := [.agg (bkA ((nb).conf) ((nb).index) ((nb).room) (.slice la7_6 ((nb).live.length) lc7_6) (.slice da7_6 ((nb).done.length) dc7_6) ((nb).modes)), .agg (bkA nb.conf nb.index nb.room (.slice nla nb.live.length nlc) (.slice nda nb.done.length ndc) nb.modes)]) Try.func19 rfl (by kernel_rfl) (.bool true) (fun wc H => sameT (nb) la7_6 lc7_6 da7_6 dc7_6 nla nlc nda ndc wc (hp_held H (by (repeat (first | exact List.Mem.head _ | apply List.Mem.tail)))) (hp_held H (by (repeat (first | exact List.Mem.head _ | apply List.Mem.tail)))) (hp_held H (by (repeat (first | exact List.Mem.head _ | apply List.Mem.tail)))) (hp_held H (by (repeat (first | exact List.Mem.head _ | apply List.Mem.tail)))) hJ) rfl rfl rfl rfl ?_
 iterate 2 refine p_commitYes rfl ?_
 refine wN ?_
 refine tN (wKK hK9 ?_)
 refine wCf rfl ?_
 refine wSk ?_
 refine tN (wKK hK7 ?_)
 refine wSeqK fun KK10 hK10 => ?_
 intro aa ww nn dd hs H
 refine commitYes_r10 v b la lc da dc kc kr now ga gc ys tr stl sb sla slc sda sdc skc skr snow nb nla nlc nda ndc x nkc nkr b6 b7 b8 b9 b11 la7_6 lc7_6 da7_6 dc7_6 hq htr hyl ha H aa nn (hs 0 _ rfl) (hs 7 _ rfl) (hs 9 _ rfl) ?_
 intro ab wv nn2 dd2 kp H2
 refine wIn nn2 (dd2.trans dd) (Sat.cons (Sat.cons (Sat.cons (Sat.cons (Sat.cons (Sat.cons (Sat.cons (Sat.cons (Sat.cons (Sat.cons (Sat.cons (Sat.cons (Sat.cons (Sat.cons (Sat.cons (sat_nil ab) ((kp 56 rfl).trans (hs 56 _ rfl))) ((kp 31 rfl).trans (hs 31 _ rfl))) ((kp 14 rfl).trans (hs 14 _ rfl))) ((kp 12 rfl).trans (hs 12 _ rfl))) ((kp 11 rfl).trans (hs 11 _ rfl))) ((kp 10 rfl).trans (hs 10 _ rfl))) ((kp 9 rfl).trans (hs 9 _ rfl))) ((kp 8 rfl).trans (hs 8 _ rfl))) ((kp 7 rfl).trans (hs 7 _ rfl))) ((kp 6 rfl).trans (hs 6 _ rfl))) ((kp 4 rfl).trans (hs 4 _ rfl))) ((kp 3 rfl).trans (hs 3 _ rfl))) ((kp 2 rfl).trans (hs 2 _ rfl))) ((kp 1 rfl).trans (hs 1 _ rfl))) ((kp 0 rfl).trans (hs 0 _ rfl))) H2 ?_
 clear hs H kp H2 dd dd2 nn nn2
 refine tN (wKK hK10 ?_)
 refine wSeqK fun KK11 hK11 => ?_
 intro aa ww nn dd hs H
 refine commitYes_r11 v b la lc da dc now ga gc ys tr stl sb sla slc sda sdc skc skr snow nb nla nlc nda ndc x nkc nkr b6 b7 b8 b9 b11 la7_6 lc7_6 da7_6 dc7_6 hq htr hyl ha H aa nn (hs 0 _ rfl) (hs 8 _ rfl) ?_
 intro b73 a74 c74 ab wv nn2 dd2 kp H2
 refine wIn nn2 (dd2.trans dd) (Sat.cons (Sat.cons (Sat.cons (Sat.cons (Sat.cons (Sat.cons (Sat.cons (Sat.cons (Sat.cons (Sat.cons (Sat.cons (Sat.cons (Sat.cons (Sat.cons (Sat.cons (sat_nil ab) ((kp 56 rfl).trans (hs 56 _ rfl))) ((kp 31 rfl).trans (hs 31 _ rfl))) ((kp 14 rfl).trans (hs 14 _ rfl))) ((kp 12 rfl).trans (hs 12 _ rfl))) ((kp 11 rfl).trans (hs 11 _ rfl))) ((kp 10 rfl).trans (hs 10 _ rfl))) ((kp 9 rfl).trans (hs 9 _ rfl))) ((kp 8 rfl).trans (hs 8 _ rfl))) ((kp 7 rfl).trans (hs 7 _ rfl))) ((kp 6 rfl).trans (hs 6 _ rfl))) ((kp 4 rfl).trans (hs 4 _ rfl))) ((kp 3 rfl).trans (hs 3 _ rfl))) ((kp 2 rfl).trans (hs 2 _ rfl))) ((kp 1 rfl).trans (hs 1 _ rfl))) ((kp 0 rfl).trans (hs 0 _ rfl))) H2 ?_
 clear hs H kp H2 dd dd2 nn nn2
 refine tN (wKK hK11 ?_)
 refine wSeqK fun KK12 hK12 => ?_
 refine wReg ?_
 refine p_commitYes rfl ?_
 refine wN ?_
 refine tN (wKK hK12 ?_)
 refine wRet ?_
 exact wR1 rfl rfl (fun ww H => ⟨a74, c74, rfl, hp_sel [8, 9, 10, 11, 12, 13] H (by decide) rfl⟩)
end Go.Proofs.Ytnanihffljpdbaa.Bk
