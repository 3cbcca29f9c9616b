/- Layer 35: mint: what is drawn. -/
import Derived.Test.YthflkhalipkdgaaGreatProg
import Derived.Below
import Derived.WalkKit
import Derived.KernelRfl
import Derived.RowKit3
import Derived.Deep.LoopGhost
import Derived.Deep.QuietTactic
import Derived.BigQuiet
import Derived.WideLaws
import Derived.Deep.DeepCutAuto
import Derived.Deep.CutBlock
import Derived.Lib.Hide
import Derived.Laws.BitsLemmas
import Derived.Laws.Bits64
import Derived.Laws.BitsAllLaws
import Derived.IntWalk
import Derived.Outline
import Derived.WalkSpells
import Derived.Test.YthflkhalipkdgaaGreatGA
import Derived.Test.YthflkhalipkdgaaGreatEn
import Derived.Test.YthflkhalipkdgaaGreatWk2
import Derived.WalkLawsBesides
namespace Go.Proofs.YthflkhalipkdgaaGreat.Mn
set_option maxRecDepth 20000
open Go.RowKit Go.Proofs.YthflkhalipkdgaaGreat.Mem Go.Proofs.YthflkhalipkdgaaGreat.Reg Go.Proofs.YthflkhalipkdgaaGreat.Wk Go.Proofs.YthflkhalipkdgaaGreat.Si Go.Proofs.YthflkhalipkdgaaGreat.Ca Go.Proofs.YthflkhalipkdgaaGreat.Ms
set_option linter.unusedVariables false
set_option linter.unusedSimpArgs false

def cL (x : Cfg) : List Value := [.int .i64 x.floors, .int .i64 x.cars, .int .i64 x.seats, .int .i64 x.calls, .int .i64 x.lines, .int .i64 x.keys, .int .i64 x.window, .int .i64 x.burst, .int .i64 x.rate, .int .i64 x.idle, .int .i64 x.inn, .int .i64 x.out, .int .i64 x.feed, .int .i64 x.retries, .int .i64 x.life, .int .i64 x.door, .int .i64 x.holds, .int .u32 x.secret]
def cA (x : Cfg) : Array Value := #[.int .i64 x.floors, .int .i64 x.cars, .int .i64 x.seats, .int .i64 x.calls, .int .i64 x.lines, .int .i64 x.keys, .int .i64 x.window, .int .i64 x.burst, .int .i64 x.rate, .int .i64 x.idle, .int .i64 x.inn, .int .i64 x.out, .int .i64 x.feed, .int .i64 x.retries, .int .i64 x.life, .int .i64 x.door, .int .i64 x.holds, .int .u32 x.secret]
theorem exec_pnil_eql {P : Program} {o : Oper} {act : Act} {w : World} {p q : Operand} {t yt e : TypeId} {x : Addr} (ho : o.op = .binOp .eql t p q yt) (hp : act.eval p = .pointer (some x)) (hq : act.eval q = .pointer none) (hu : P.underlying t = some (.pointer e)) : (execOp act.eval o).run P w = .ok (.value (.bool false)) w := by
  have h1 : ∀ d, (Op.equalIn (d + 1) t (.pointer (some x)) (.pointer none)).run P w = .ok false w := fun d => by simp [Op.equalIn, run_underlying hu]
  have h2 : (binOp .eql t (.pointer (some x)) (.pointer none)).run P w = .ok (.bool false) w := by
    simp only [binOp]
    simp [Op.equal, Op.maxDepth, h1 9999]
  unfold execOp
  simp only [ho, hp, hq]
  rw [Sem.run_bind, Sem.run_bind]
  simp [eqGuard, h2]
section
variable {S : List Nat} {w0 w w' : World} {R : List Res}
theorem hp_one {b : Nat} {t : TypeId} {cs : List Value} (h : Blk w b cs.toArray t) : Hid (Hp [b] w w [rB b t cs]) := by
  refine Lib.hid ⟨Off.refl _ _, fun r hr => ?_, fun r hr k hk => ?_, fun r hr _ k hk => ?_, List.pairwise_singleton _ _⟩
  · rw [List.mem_singleton.1 hr]; exact h
  · rw [List.mem_singleton.1 hr] at hk; simp only [rB, List.mem_singleton] at hk; rw [hk]; exact h.lt
  · rw [List.mem_singleton.1 hr] at hk; exact .inl hk
/-- a call that changed one block -/
theorem hp_turn {i b : Nat} {t : TypeId} {cs cs' : List Value} (H : Hid (Hp S w0 w R)) (hi : R[i]? = some (rB b t cs)) (hb : Blk w' b cs'.toArray t) (ho : Off [b] w w') : Hid (Hp S w0 w' (R.set i (rB b t cs'))) := by
  refine Lib.hid (H.out.step i hi _ ho (fun k hk => by simpa [rB] using hk) hb (fun k hk => ?_))
  simp only [rB, List.mem_singleton] at hk
  subst hk
  exact ⟨.inl (by simp [rB]), hb.lt⟩
end
def m1 (s : Nat) : Nat := s * 8192 % 18446744073709551616
def m2 (s : Nat) : Nat := s ^^^ m1 s
def m3 (s : Nat) : Nat := m2 s / 128
def m4 (s : Nat) : Nat := m2 s ^^^ m3 s
def m5 (s : Nat) : Nat := m4 s * 131072 % 18446744073709551616
def nextN (s : Nat) : Nat := m4 s ^^^ m5 s
theorem xor_lt {a b : Nat} (ha : a < 18446744073709551616) (hb : b < 18446744073709551616) : a ^^^ b < 18446744073709551616 := Nat.xor_lt_two_pow (n := 64) ha hb
theorem m1_lt (s : Nat) : m1 s < 18446744073709551616 := Nat.mod_lt _ (by decide)
theorem m2_lt {s : Nat} (h : s < 18446744073709551616) : m2 s < 18446744073709551616 := xor_lt h (m1_lt s)
theorem m3_lt {s : Nat} (h : s < 18446744073709551616) : m3 s < 18446744073709551616 := Nat.lt_of_le_of_lt (Nat.div_le_self _ _) (m2_lt h)
theorem m4_lt {s : Nat} (h : s < 18446744073709551616) : m4 s < 18446744073709551616 := xor_lt (m2_lt h) (m3_lt h)
theorem m5_lt (s : Nat) : m5 s < 18446744073709551616 := Nat.mod_lt _ (by decide)
theorem next_lt {s : Nat} (h : s < 18446744073709551616) : nextN s < 18446744073709551616 := xor_lt (m4_lt h) (m5_lt s)
theorem wrap_nat (a : Nat) : IntKind.u64.wrap (a : Int) = ((a % 18446744073709551616 : Nat) : Int) := by rw [IntKind.wrap_u64]; omega
def belN (s n : Nat) : Nat := nextN s % n
def belV (s : Nat) (n : Int) : Int := ((belN s n.toNat : Nat) : Int)
theorem belN_lt (s : Nat) {n : Nat} (h : 0 < n) : belN s n < n := Nat.mod_lt _ h
theorem belV_lt (s : Nat) {n : Int} (h : 1 ≤ n) : 0 ≤ belV s n ∧ belV s n < n := by
  have := belN_lt s (n := n.toNat) (by omega)
  unfold belV
  omega
theorem tymint_Mint : TyI Tryz.prog 61 1 true [.int .u64 0] := ⟨by kernel_rfl, by kernel_rfl, by kernel_rfl⟩
theorem tyuint64 : TyI Tryz.prog 22 1 false [.int .u64 0] := ⟨by kernel_rfl, by kernel_rfl, by kernel_rfl⟩
def tab_nextC : Wk.Tab := [(61, 0, 0)]
theorem p_nextC {ops : Array Oper} {rest : List Oper} {o : Oper} {w0 : World} {Q : Exit → Act → World → Prop} {S : List Nat} {R : List Res} {K K' : Wk.Env} {N : Nat} (h : Wk.stp tab_nextC N ops K o = some K') (n : Wk.Wk N S w0 K' R (wpList Tryz.prog ops Q rest)) : Wk.Wk N S w0 K R (wpList Tryz.prog ops Q (o :: rest)) := Wk.wP (T := tab_nextC) (by kernel_rfl) h n
set_option maxHeartbeats 16000000 in
set_option maxRecDepth 20000 in
theorem nextC (m : Nat) (s : Nat) (w : World) (hm : Blk w m #[.int .u64 s] 61) (hsl : s < 18446744073709551616) : Calls Tryz.prog 8 #[.pointer (some ⟨m, 0, none⟩)] w fun e w' => e = .returned (.int .u64 (nextN s)) ∧ Blk w' m #[.int .u64 (nextN s)] 61 ∧ Off [m] w w' := by
 have H := Lib.hid (Hp.start [] w)
 have H := hp_one hm
 clear hm
 have f1 : IntKind.u64.wrap ((s : Int) * 8192) = (m1 s : Int) := by rw [show ((s : Int) * 8192) = ((s * 8192 : Nat) : Int) by omega, wrap_nat]; rfl
 have f2 : bits BinOp.xor IntKind.u64 s (m1 s) = (m2 s : Int) := bits_xor_u64_nat s (m1 s) hsl (m1_lt s)
 have f3 : ((m2 s : Nat) : Int) / 128 = (m3 s : Int) := by unfold m3; omega
 have f4 : bits BinOp.xor IntKind.u64 (m2 s) (m3 s) = (m4 s : Int) := bits_xor_u64_nat (m2 s) (m3 s) (m2_lt hsl) (m3_lt hsl)
 have f5 : IntKind.u64.wrap ((m4 s : Int) * 131072) = (m5 s : Int) := by rw [show ((m4 s : Int) * 131072) = ((m4 s * 131072 : Nat) : Int) by omega, wrap_nat]; rfl
 have f6 : bits BinOp.xor IntKind.u64 (m4 s) (m5 s) = (nextN s : Int) := bits_xor_u64_nat (m4 s) (m5 s) (m4_lt hsl) (m5_lt s)
 refine wStart (args := [.pointer (some ⟨m, 0, none⟩)]) Tryz.func8 rfl rfl rfl H ?_
 clear H
 show Wk 27 _ _ [(0, .pointer (some ⟨m, 0, none⟩))] _ _
 refine wSeqK fun KK1 hK1 => ?_
 refine wReg ?_
 refine p_nextC rfl ?_
 refine wN ?_
 refine tN (wKK hK1 ?_)
 refine wSeqK fun KK2 hK2 => ?_
 refine wSeqK fun KK3 hK3 => ?_
 refine wReg ?_
 refine p_nextC rfl ?_
 refine wE (.bool false) rfl rfl rfl (fun aa ww hs _ => by exact exec_pnil_eql rfl (hs _ _ rfl) rfl Tryz.underlying28) ?_
 refine wN ?_
 refine tN (wKK hK3 ?_)
 refine wCf rfl ?_
 refine wSk ?_
 refine tN (wKK hK2 ?_)
 refine wSeqK fun KK4 hK4 => ?_
 refine wReg ?_
 iterate 3 refine p_nextC rfl ?_
 refine wLd rfl tyuint64 0 rfl rfl ?_
 refine p_nextC rfl ?_
 refine wN ?_
 refine tN (wKK hK4 ?_)
 refine wSeqK fun KK5 hK5 => ?_
 refine wReg ?_
 iterate 2 refine p_nextC rfl ?_
 refine wE (.int .u64 (m1 s)) rfl rfl rfl (fun aa ww hs _ => by have e11 := hs 11 _ rfl; have g11 := gt_of e11; simp only [execOp]; go_simp <;> first | rfl | omega) ?_
 refine wE (.int .u64 (m2 s)) rfl rfl rfl (fun aa ww hs _ => by have e10 := hs 10 _ rfl; have g10 := gt_of e10; have e12 := hs 12 _ rfl; have g12 := gt_of e12; simp only [execOp]; go_simp <;> first | rfl | omega) ?_
 refine p_nextC rfl ?_
 refine wN ?_
 refine tN (wKK hK5 ?_)
 refine wSeqK fun KK6 hK6 => ?_
 refine wReg ?_
 iterate 2 refine p_nextC rfl ?_
 refine wE (.int .u64 (m3 s)) rfl rfl rfl (fun aa ww hs _ => by have e15 := hs 15 _ rfl; have g15 := gt_of e15; simp only [execOp]; go_simp <;> first | rfl | omega) ?_
 refine wE (.int .u64 (m4 s)) rfl rfl rfl (fun aa ww hs _ => by have e14 := hs 14 _ rfl; have g14 := gt_of e14; have e16 := hs 16 _ rfl; have g16 := gt_of e16; simp only [execOp]; go_simp <;> first | rfl | omega) ?_
 refine p_nextC rfl ?_
 refine wN ?_
 refine tN (wKK hK6 ?_)
 refine wSeqK fun KK7 hK7 => ?_
 refine wReg ?_
 iterate 2 refine p_nextC rfl ?_
 refine wE (.int .u64 (m5 s)) rfl rfl rfl (fun aa ww hs _ => by have e19 := hs 19 _ rfl; have g19 := gt_of e19; simp only [execOp]; go_simp <;> first | rfl | omega) ?_
 refine wE (.int .u64 (nextN s)) rfl rfl rfl (fun aa ww hs _ => by have e18 := hs 18 _ rfl; have g18 := gt_of e18; have e20 := hs 20 _ rfl; have g20 := gt_of e20; simp only [execOp]; go_simp <;> first | rfl | omega) ?_
 refine p_nextC rfl ?_
 refine wN ?_
 refine tN (wKK hK7 ?_)
 refine wSeqK fun KK8 hK8 => ?_
 refine wReg ?_
 iterate 4 refine p_nextC rfl ?_
 refine wSt rfl tyuint64 0 rfl rfl rfl rfl ?_
 refine wN ?_
 refine tN (wKK hK8 ?_)
 refine wSeqK fun KK9 hK9 => ?_
 refine wReg ?_
 iterate 2 refine p_nextC rfl ?_
 refine wN ?_
 refine tN (wKK hK9 ?_)
 refine wRet ?_
 exact wR1 rfl rfl (fun ww H => ⟨rfl, H.out.blk 0 rfl, H.out.off⟩)
theorem nextN_lt {s : Nat} (h : s < 18446744073709551616) : nextN s < 18446744073709551616 := next_lt h
def tab_belowOk : Wk.Tab := []
theorem p_belowOk {ops : Array Oper} {rest : List Oper} {o : Oper} {w0 : World} {Q : Exit → Act → World → Prop} {S : List Nat} {R : List Res} {K K' : Wk.Env} {N : Nat} (h : Wk.stp tab_belowOk N ops K o = some K') (n : Wk.Wk N S w0 K' R (wpList Tryz.prog ops Q rest)) : Wk.Wk N S w0 K R (wpList Tryz.prog ops Q (o :: rest)) := Wk.wP (T := tab_belowOk) (by kernel_rfl) h n
set_option maxHeartbeats 16000000 in
set_option maxRecDepth 20000 in
theorem belowOk (m : Nat) (s : Nat) (n : Int) (w : World) (hm : Blk w m #[.int .u64 s] 61) (hsl : s < 18446744073709551616) (hn : 1 ≤ n ∧ n ≤ 2147483648) : Calls Tryz.prog 10 #[.pointer (some ⟨m, 0, none⟩), .int .i64 n] w fun e w' => e = .returned (.int .i64 (belV s n)) ∧ Blk w' m #[.int .u64 (nextN s)] 61 ∧ Off [m] w w' := by
 have H := Lib.hid (Hp.start [] w)
 have H := hp_one hm
 clear hm
 have hn1 : 1 ≤ n ∧ n ≤ 2147483648 := hn
 have hw : IntKind.u64.wrap n = n := IntWalk.u64_in _ (by omega)
 have hbt : ((nextN s : Nat) : Int).tmod n = belV s n := by unfold belV belN; rw [Int.tmod_eq_emod_of_nonneg (by omega)]; rw [show n = ((n.toNat : Nat) : Int) by omega]; simp; done
 have hbw : IntKind.i64.wrap (belV s n) = belV s n := IntWalk.i64_in _ (by have := belV_lt s (n := n) (by omega); omega)
 have ht1 : decide (n < 1) = false := decide_eq_false (by omega)
 have ht2 : decide (2147483648 < n) = false := decide_eq_false (by omega)
 refine wStart (args := [.pointer (some ⟨m, 0, none⟩), .int .i64 n]) Tryz.func10 rfl rfl rfl H ?_
 clear H
 show Wk 21 _ _ [(0, .pointer (some ⟨m, 0, none⟩)), (1, .int .i64 n)] _ _
 refine wSeqK fun KK1 hK1 => ?_
 refine wReg ?_
 refine p_belowOk rfl ?_
 refine wN ?_
 refine tN (wKK hK1 ?_)
 refine wSeqK fun KK2 hK2 => ?_
 refine wSeqK fun KK3 hK3 => ?_
 refine wReg ?_
 refine p_belowOk rfl ?_
 refine wE (.bool false) rfl rfl rfl (fun aa ww hs _ => by exact exec_pnil_eql rfl (hs _ _ rfl) rfl Tryz.underlying28) ?_
 iterate 3 refine p_belowOk rfl ?_
 refine wB 9 rfl ht1 ?_
 iterate 4 refine p_belowOk rfl ?_
 refine wB 13 rfl ht2 ?_
 refine p_belowOk rfl ?_
 refine wN ?_
 refine tN (wKK hK3 ?_)
 refine wCf rfl ?_
 refine wSk ?_
 refine tN (wKK hK2 ?_)
 refine wSeqK fun KK4 hK4 => ?_
 refine wReg ?_
 refine p_belowOk rfl ?_
 refine wC (l := [.pointer (some ⟨m, 0, none⟩)]) Tryz.func8 rfl (by kernel_rfl) (fun wc H => nextC m s wc (H.out.blk 0 rfl) hsl) rfl rfl rfl rfl ?_
 intro wc H
 rintro er wd ⟨rfl, hb, ho⟩
 have H2 := hp_turn H (i := 0) (cs' := [.int .u64 (nextN s)]) rfl hb ho
 refine ⟨_, rfl, wkAt H2 ?_⟩
 clear H H2
 refine p_belowOk rfl ?_
 refine wE (.int .u64 n) rfl rfl rfl (fun aa ww hs _ => by have e17 := hs 17 _ rfl; have g17 := gt_of e17; simp only [execOp]; go_simp <;> first | rfl | omega) ?_
 refine wE (.int .u64 (((nextN s) : Int).tmod n)) rfl rfl rfl (fun aa ww hs _ => exec_rem rfl (hs _ _ rfl) (hs _ _ rfl) (by omega)) ?_
 refine wI 19 rfl hbt ?_
 refine wE (.int .i64 (belV s n)) rfl rfl rfl (fun aa ww hs _ => by have e19 := hs 19 _ rfl; have g19 := gt_of e19; simp only [execOp]; go_simp <;> first | rfl | omega) ?_
 refine p_belowOk rfl ?_
 refine wN ?_
 refine tN (wKK hK4 ?_)
 refine wRet ?_
 exact wR1 rfl rfl (fun ww H => ⟨rfl, H.out.blk 0 rfl, H.out.off⟩)
theorem belowN (m s n : Nat) (w : World) (hm : Blk w m #[.int .u64 s] 61) (hsl : s < 18446744073709551616) (hn : 1 ≤ n ∧ n ≤ 2147483648) : Calls Tryz.prog 10 #[.pointer (some ⟨m, 0, none⟩), .int .i64 n] w fun e w' => e = .returned (.int .i64 (belN s n)) ∧ Blk w' m #[.int .u64 (nextN s)] 61 ∧ Off [m] w w' := by
  have h := belowOk m s n w hm hsl (by omega)
  rw [show belV s (n : Int) = ((belN s n : Nat) : Int) from by unfold belV; simp] at h
  exact h
def tab_fromOk : Wk.Tab := []
theorem p_fromOk {ops : Array Oper} {rest : List Oper} {o : Oper} {w0 : World} {Q : Exit → Act → World → Prop} {S : List Nat} {R : List Res} {K K' : Wk.Env} {N : Nat} (h : Wk.stp tab_fromOk N ops K o = some K') (n : Wk.Wk N S w0 K' R (wpList Tryz.prog ops Q rest)) : Wk.Wk N S w0 K R (wpList Tryz.prog ops Q (o :: rest)) := Wk.wP (T := tab_fromOk) (by kernel_rfl) h n
set_option maxHeartbeats 16000000 in
set_option maxRecDepth 20000 in
theorem fromOk (m : Nat) (s : Nat) (l : Int) (n : Int) (w : World) (hm : Blk w m #[.int .u64 s] 61) (hsl : s < 18446744073709551616) (hl : 0 ≤ l ∧ l ≤ 1000) (hn : 1 ≤ n ∧ n ≤ 2147483648) : Calls Tryz.prog 26 #[.pointer (some ⟨m, 0, none⟩), .int .i64 l, .int .i64 n] w fun e w' => e = .returned (.int .i64 (l + belV s n)) ∧ Blk w' m #[.int .u64 (nextN s)] 61 ∧ Off [m] w w' := by
 have H := Lib.hid (Hp.start [] w)
 have H := hp_one hm
 clear hm
 have hbl := belV_lt s (n := n) hn.1
 refine wStart (args := [.pointer (some ⟨m, 0, none⟩), .int .i64 l, .int .i64 n]) Tryz.func26 rfl rfl rfl H ?_
 clear H
 show Wk 12 _ _ [(0, .pointer (some ⟨m, 0, none⟩)), (1, .int .i64 l), (2, .int .i64 n)] _ _
 refine wSeqK fun KK1 hK1 => ?_
 refine wReg ?_
 refine p_fromOk rfl ?_
 refine wN ?_
 refine tN (wKK hK1 ?_)
 refine wSeqK fun KK2 hK2 => ?_
 refine wReg ?_
 iterate 3 refine p_fromOk rfl ?_
 refine wC (l := [.pointer (some ⟨m, 0, none⟩), .int .i64 n]) Tryz.func10 rfl (by kernel_rfl) (fun wc H => belowOk m s n wc (H.out.blk 0 rfl) hsl (by omega)) rfl rfl rfl rfl ?_
 intro wc H
 rintro er wd ⟨rfl, hb, ho⟩
 have H2 := hp_turn H (i := 0) (cs' := [.int .u64 (nextN s)]) rfl hb ho
 refine ⟨_, rfl, wkAt H2 ?_⟩
 clear H H2
 refine p_fromOk rfl ?_
 refine wI 11 rfl (IntWalk.i64_in _ (by omega)) ?_
 refine p_fromOk rfl ?_
 refine wN ?_
 refine tN (wKK hK2 ?_)
 refine wRet ?_
 exact wR1 rfl rfl (fun ww H => ⟨rfl, H.out.blk 0 rfl, H.out.off⟩)
theorem fromN (m s : Nat) (l : Int) (n : Nat) (w : World) (hm : Blk w m #[.int .u64 s] 61) (hsl : s < 18446744073709551616) (hl : 0 ≤ l ∧ l ≤ 1000) (hn : 1 ≤ n ∧ n ≤ 2147483648) : Calls Tryz.prog 26 #[.pointer (some ⟨m, 0, none⟩), .int .i64 l, .int .i64 n] w fun e w' => e = .returned (.int .i64 (l + (belN s n : Int))) ∧ Blk w' m #[.int .u64 (nextN s)] 61 ∧ Off [m] w w' := by
  have h := fromOk m s l n w hm hsl hl (by omega)
  rw [show belV s (n : Int) = ((belN s n : Nat) : Int) from by unfold belV; simp] at h
  exact h
end Go.Proofs.YthflkhalipkdgaaGreat.Mn
