/- Layer 15: numbers that are counts. -/
import Derived.Test.YtloemjhhedkhiaaProg
import Derived.Below
import Derived.WalkKit
import Derived.KernelRfl
import Derived.RowKit3
import Derived.Deep.LoopGhost
import Derived.Deep.QuietTactic
import Derived.BigQuiet
import Derived.WideLaws
import Derived.Deep.DeepCutAuto
import Derived.Deep.CutBlock
import Derived.Lib.Hide
import Derived.Laws.BitsLemmas
import Derived.Laws.Bits64
import Derived.Laws.BitsAllLaws
import Derived.IntWalk
import Derived.Outline
import Derived.WalkSpells
import Derived.Test.YtloemjhhedkhiaaMem
import Derived.Test.YtloemjhhedkhiaaNr
import Derived.Test.YtloemjhhedkhiaaWk
namespace Go.Proofs.Ytloemjhhedkhiaa.Nt
open Go.RowKit Go.Proofs.Ytloemjhhedkhiaa.Mem Go.Proofs.Ytloemjhhedkhiaa.Pk Go.Proofs.Ytloemjhhedkhiaa.Reg Go.Proofs.Ytloemjhhedkhiaa.Wk
set_option linter.unusedVariables false
set_option linter.unusedSimpArgs false

theorem any_yes {ns : List Int} {i : Nat} {x : Int} (h : ns[i]? = some x) (hb : bigB x = true) : decide (0 ≤ ((i : Nat) : Int)) = ns.any bigB := by
  rw [decide_eq_true (Int.natCast_nonneg i)]
  exact (List.any_eq_true.2 ⟨x, List.mem_of_getElem? h, hb⟩).symm
theorem any_no {ns : List Int} (h : ∀ k, k < ns.length → ∀ y, ns[k]? = some y → bigB y = false) : decide ((0 : Int) ≤ -1) = ns.any bigB := by
  have h1 : ns.any bigB = false := by
    rw [List.any_eq_false]
    intro x hx
    obtain ⟨k, hk, rfl⟩ := List.getElem_of_mem hx
    rw [h k hk _ (List.getElem?_eq_getElem hk)]
    decide
  rw [h1]
  rfl
theorem big_next {f : Int → Bool} {l : List Int} {j : Nat} {x : Int} (h : ∀ k, k < j → ∀ y, l[k]? = some y → f y = false) (hx : l[j]? = some x) (hf : f x = false) : ∀ k, k < j + 1 → ∀ y, l[k]? = some y → f y = false := fun k hk y hy => by
  rcases Nat.lt_or_ge k j with h1 | h1
  · exact h k h1 y hy
  · obtain rfl : k = j := by omega
    rw [hx] at hy
    exact Option.some.inj hy ▸ hf
theorem puts_mono {b m m' : Nat} {F l : List Nat} {w w' : World} (h : Puts b F m l w w') (hm : m ≤ m') : Puts b F m' l w w' := by
  obtain ⟨F', ⟨h1, h2⟩, h3⟩ := h
  exact ⟨F', ⟨Nat.le_trans h1 hm, h2⟩, h3⟩
theorem encs_ok {wd : Int} {ns : List Int} (h : (encs wd ns).2 = true) : (encs wd ns).1 = beBs wd.toNat ns := by
  unfold encs at h ⊢
  split
  · rfl
  · rename_i h1; rw [if_neg h1] at h; cases h
theorem fit1 (n : Int) : fitsV 1 n = byt n := by
  unfold fitsV byt wide
  rw [Bool.eq_iff_iff]
  simp
  omega
theorem encs1 (ns : List Int) : (encs 1 ns).2 = ns.all byt := by
  unfold encs
  have e : ns.all (fitsV 1) = ns.all byt := by congr 1; funext n; exact fit1 n
  rw [e]
  cases h : ns.all byt with
  | true => rfl
  | false => rfl
theorem fit4 (n : Int) : fitsV 4 n = (decide (0 ≤ n) && decide (n ≤ 4294967295)) := by
  unfold fitsV wide
  rw [Bool.eq_iff_iff]
  simp
  omega
theorem encs4 (ns : List Int) : (encs 4 ns).2 = ns.all fun n => decide (0 ≤ n) && decide (n ≤ 4294967295) := by
  unfold encs
  have e : ns.all (fitsV 4) = ns.all (fun n => decide (0 ≤ n) && decide (n ≤ 4294967295)) := by congr 1; funext n; exact fit4 n
  rw [e]
  cases h : ns.all (fun n => decide (0 ≤ n) && decide (n ≤ 4294967295)) with
  | true => rfl
  | false => rfl
theorem cnts_all (ns : List Int) : (cntsV ns).2 = ns.all cnt := by
  unfold cntsV
  split
  · rename_i h
    obtain ⟨x, hx, hb⟩ := List.any_eq_true.1 h
    have : ns.all cnt = false := by
      rw [List.all_eq_false]
      refine ⟨x, hx, ?_⟩
      unfold bigB at hb
      rw [cnt_iff]
      simp at hb
      omega
    rw [this]
  · rename_i h
    rw [encs4, Bool.eq_iff_iff, List.all_eq_true, List.all_eq_true]
    have h2 : ∀ x ∈ ns, ¬ bigB x = true := fun x hx hb => h (List.any_eq_true.2 ⟨x, hx, hb⟩)
    constructor
    · intro h3 x hx
      have := h3 x hx
      have := h2 x hx
      unfold bigB at this
      rw [cnt_iff]
      simp at *
      omega
    · intro h3 x hx
      have := (cnt_iff x).1 (h3 x hx)
      simp
      omega
theorem cnts_ok {ns : List Int} (h : (cntsV ns).2 = true) : (cntsV ns).1 = beBs 4 ns := by
  unfold cntsV at h ⊢
  split
  · rename_i h1; rw [if_pos h1] at h; cases h
  · rename_i h1; rw [if_neg h1] at h; exact encs_ok h
theorem out_apart {S : List Nat} {w0 w : World} {R : List Res} (H : Hid (Hp S w0 w R)) {b g m i j : Nat} {F l : List Nat} {ns : List Int} (hi : R[i]? = some (rOut b F m l)) (hj : R[j]? = some (rB g 3 (ns.map (Value.int .i64)))) : g ∉ F := by
  obtain ⟨hlm, v, hv, hF⟩ := H.out.at i hi
  have hij : j ≠ i := by
    intro e
    subst e
    rw [hi] at hj
    have h1 : rOut b F m l = rB g 3 (ns.map (Value.int .i64)) := by injection hj
    have h2 : F = [g] := congrArg Res.foot h1
    have h3 : (rOut b F m l).holds w := H.out.at j hi
    rw [h1] at h3
    have h4 : Blk w g (ns.map (Value.int .i64)).toArray 3 := h3
    have hbg : b = g := by have := hF b (by simp [foot]); rw [h2] at this; simpa using this
    have h5 := hv.blk
    subst hbg
    unfold Blk at h4 h5
    rw [h4] at h5
    have h6 : (Obj.cells (ns.map (Value.int .i64)).toArray 3 (0, 0)) = .cells #[v] 100 (0, 0) := by injection h5
    have h7 : (3 : Nat) = 100 := by injection h6
    revert h7
    decide
  exact (Hp.two H.out hj hi hij rfl) g (by simp [rB])
/-- a writer takes numbers that lie apart from it -/
theorem outNumsP {b g : Nat} {wd : Int} {ns : List Int} {F : List Nat} {m : Nat} {l : List Nat} {c : Nat} {w : World} (hO : (rOut b F m l).holds w) (hg : Blk w g (ns.map (Value.int .i64)).toArray 3) (hgF : g ∉ F) (hn : ns.length ≤ 65536) (hm : m ≤ 1099511627776) :
    Calls Try.prog 46 #[.pointer (some ⟨b, 0, none⟩), .int .i64 wd, .slice (some ⟨g, 0, none⟩) ns.length c] w fun e w' => e = .returned (.bool (encs wd ns).2) ∧ Puts b F (m + 8 * ns.length) (l ++ (encs wd ns).1) w w' := by
  obtain ⟨hlm, v, hv, hF⟩ := hO
  refine (outNums b wd ns g c v l w hn (by omega) hv hg (fun h => hgF (hF g h))).mono ?_
  rintro e w' ⟨rfl, v', hv', hgo, hoff⟩
  refine ⟨rfl, foot b v', ⟨?_, v', hv', fun k hk => hk⟩, fun k hk => ⟨?_, out_lt hv' k hk⟩, hoff.mono fun k _ hk => hF k hk⟩
  · have := encs_len wd ns
    rw [List.length_append]
    omega
  · rcases Grow.foot hgo k hk with h1 | h1
    · exact .inl (hF k h1)
    · exact .inr h1
theorem hp_putN {S : List Nat} {w0 w w' : World} {R : List Res} (H : Hid (Hp S w0 w R)) {b m m' i g c : Nat} {F l l' : List Nat} {cs : List Value} (hi : R[i]? = some (rOut b F m l)) (h : Puts b F m' l' w w') : ∃ F', Hid (Hp S w0 w' (R.set i (rOut b F' m' l'))) := hp_put H hi h
theorem tyapi_Call : TyI Try.prog 25 8 true [.int .i64 0, .int .i64 0, .int .i64 0, .int .i64 0, .int .i64 0, .int .i64 0, .int .i64 0, .int .i64 0] := ⟨by kernel_rfl, by kernel_rfl, by kernel_rfl⟩
theorem tyint : TyI Try.prog 3 1 false [.int .i64 0] := ⟨by kernel_rfl, by kernel_rfl, by kernel_rfl⟩
theorem tyS_uint8 : TyI Try.prog 44 1 false [.slice none 0 0] := ⟨by kernel_rfl, by kernel_rfl, by kernel_rfl⟩
theorem tynote_Answer : TyI Try.prog 64 6 true [.int .i64 0, .int .i64 0, .int .i64 0, .int .i64 0, .int .u32 0, .slice none 0 0] := ⟨by kernel_rfl, by kernel_rfl, by kernel_rfl⟩
theorem tyS_api_Call : TyI Try.prog 62 1 false [.slice none 0 0] := ⟨by kernel_rfl, by kernel_rfl, by kernel_rfl⟩
theorem tyuint32 : TyI Try.prog 22 1 false [.int .u32 0] := ⟨by kernel_rfl, by kernel_rfl, by kernel_rfl⟩
theorem typack_Out : TyI Try.prog 100 1 true [.slice none 0 0] := ⟨by kernel_rfl, by kernel_rfl, by kernel_rfl⟩
theorem tynote_Notice : TyI Try.prog 50 12 true [.int .i64 0, .int .i64 0, .int .i64 0, .int .i64 0, .int .i64 0, .int .i64 0, .int .i64 0, .int .i64 0, .int .i64 0, .int .i64 0, .int .i64 0, .int .i64 0] := ⟨by kernel_rfl, by kernel_rfl, by kernel_rfl⟩
theorem tyapi_Change : TyI Try.prog 48 11 true [.int .i64 0, .int .i64 0, .int .i64 0, .int .i64 0, .int .i64 0, .int .i64 0, .int .i64 0, .int .i64 0, .int .i64 0, .int .i64 0, .int .i64 0] := ⟨by kernel_rfl, by kernel_rfl, by kernel_rfl⟩
def tab_bigC : Wk.Tab := []
theorem p_bigC {ops : Array Oper} {rest : List Oper} {o : Oper} {w0 : World} {Q : Exit → Act → World → Prop} {S : List Nat} {R : List Res} {K K' : Wk.Env} {N : Nat} (h : Wk.stp tab_bigC N ops K o = some K') (n : Wk.Wk N S w0 K' R (wpList Try.prog ops Q rest)) : Wk.Wk N S w0 K R (wpList Try.prog ops Q (o :: rest)) := Wk.wP (T := tab_bigC) (by kernel_rfl) h n
set_option maxHeartbeats 16000000 in
set_option maxRecDepth 20000 in
theorem bigC (n : Int) (w : World) : Calls Try.prog 78 #[.int .i64 n] w fun e w' => e = .returned (.bool (bigB n)) ∧ Off [] w w' := by
 have H := Lib.hid (Hp.start [] w)
 refine wStart (args := [.int .i64 n]) Try.func78 rfl rfl rfl H ?_
 clear H
 show Wk 5 _ _ [(0, .int .i64 n)] _ _
 refine wSeqK fun KK1 hK1 => ?_
 refine wReg ?_
 refine p_bigC rfl ?_
 refine wN ?_
 refine tN (wKK hK1 ?_)
 refine wSeqK fun KK2 hK2 => ?_
 refine wReg ?_
 iterate 3 refine p_bigC rfl ?_
 refine wN ?_
 refine tN (wKK hK2 ?_)
 refine wRet ?_
 exact wR1 rfl rfl (fun ww H => ⟨rfl, H.out.off⟩)
def tab_indexC : Wk.Tab := []
theorem p_indexC {ops : Array Oper} {rest : List Oper} {o : Oper} {w0 : World} {Q : Exit → Act → World → Prop} {S : List Nat} {R : List Res} {K K' : Wk.Env} {N : Nat} (h : Wk.stp tab_indexC N ops K o = some K') (n : Wk.Wk N S w0 K' R (wpList Try.prog ops Q rest)) : Wk.Wk N S w0 K R (wpList Try.prog ops Q (o :: rest)) := Wk.wP (T := tab_indexC) (by kernel_rfl) h n
set_option maxHeartbeats 16000000 in
set_option maxRecDepth 20000 in
theorem indexC (a : Option Addr) (c : Nat) (ns : List Int) (w : World) (h : (rS a c 1 (ns.map intRow)).holds w) (hl : ns.length ≤ 1000000) : Calls Try.prog 91 #[.slice a ns.length c, .func (.func 78) #[] #[]] w fun e w' => ∃ r : Int, e = .returned (.int .i64 r) ∧ decide (0 ≤ r) = ns.any bigB ∧ Off [] w w' := by
 have H := Lib.hid (Hp.start [] w)
 have H := hp_old H h (by decide)
 clear h
 refine wStart (args := [.slice a ns.length c, .func (.func 78) #[] #[]]) Try.func91 rfl rfl rfl H ?_
 clear H
 show Wk 19 _ _ [(0, .slice a ns.length c), (1, .func (.func 78) #[] #[])] _ _
 refine wSeqK fun KK1 hK1 => ?_
 refine wReg ?_
 refine p_indexC rfl ?_
 refine wN ?_
 refine tN (wKK hK1 ?_)
 refine wSeqK fun KK2 hK2 => ?_
 refine wSeqK fun KK3 hK3 => ?_
 refine wReg ?_
 refine p_indexC rfl ?_
 refine wE (.int .i64 ns.length) rfl rfl rfl (fun aa ww hs _ => by have e6 := hs 6 _ rfl; have g6 := gt_of e6; simp only [execOp]; go_simp <;> omega) ?_
 refine p_indexC rfl ?_
 refine wN ?_
 refine tN (wKK hK3 ?_)
 refine wBlk ?_
 refine wLoop (fun ab wv => ∃ i : Nat, i ≤ ns.length ∧ Hid (∀ k, k < i → ∀ y, ns[k]? = some y → bigB y = false) ∧ ab.tmps.size = 19 ∧ ab.defers = [] ∧ Sat [(0, .slice a ns.length c), (1, .func (.func 78) #[] #[]), (7, .int .i64 ns.length), (8, .int .i64 i)] ab ∧ Hid (Hp [] w wv [rS a c 1 (ns.map intRow)])) (fun ab _ => ns.length - (intOf (ab.eval (.tmp 8))).toNat) (fun aa ww nn dd hs H => ⟨0, (Nat.zero_le _), (Lib.hid (fun k hk => absurd hk (by omega))), nn, dd, (sat_sub ⟨rfl, rfl, rfl, rfl, trivial⟩ hs), H⟩) ?_
 rintro a1 wv ⟨i, hi, hf, nn, dd, hs, H⟩
 have mu1_8 := hs 8 _ rfl
 refine wIn nn dd hs H ?_
 clear nn dd hs H
 refine wSeqK fun KK4 hK4 => ?_
 refine wReg ?_
 refine p_indexC rfl ?_
 refine wB (c := decide (i < ns.length)) 9 rfl (by simp) ?_
 refine wN ?_
 refine tN (wKK hK4 ?_)
 refine wSeqK fun KK5 hK5 => ?_
 refine wCond (E := decide (i < ns.length)) rfl (fun z1 => ?_) (fun z1 => ?_)
 · skip
   have z1d : i < ns.length := of_decide_eq_true z1
   intro aa ww nn dd hs H
   obtain ⟨y, rfl⟩ := some_of_row (hp_held H (show rS a c 1 (ns.map intRow) ∈ _ by simp)) (i := i) (by simp; omega)
   obtain ⟨x, hx⟩ : ∃ x, ns[i]? = some x := ⟨ns[i], List.getElem?_eq_getElem (by omega)⟩
   have HRx := Lib.hid (show (ns.map intRow)[i]? = some [.int .i64 x] by rw [List.getElem?_map, hx]; rfl)
   have HXx := Lib.hid hx
   clear hx
   refine wIn nn dd hs H ?_
   refine wSk ?_
   refine tN (wKK hK5 ?_)
   refine wSeqK fun KK6 hK6 => ?_
   refine wBlk ?_
   refine wSeqK fun KK7 hK7 => ?_
   refine wReg ?_
   iterate 2 refine p_indexC rfl ?_
   refine wN ?_
   refine tN (wKK hK7 ?_)
   refine wSeqK fun KK8 hK8 => ?_
   refine wReg ?_
   iterate 3 refine p_indexC rfl ?_
   refine wE (.pointer (some (y.add i))) rfl rfl rfl (fun aa ww hs _ => by have e12 := hs 12 _ rfl; have g12 := gt_of e12; have e13 := hs 13 _ rfl; have g13 := gt_of e13; simp only [execOp]; go_simp <;> omega) ?_
   refine wX 15 (.int .i64 x) rfl (fun aa ww KK hs H _ hk => hpS_load1 0 tyint H (y := y) rfl (hs _ _ rfl) (wnt_ok hs rfl) (by (repeat (first | exact List.Mem.head _ | apply List.Mem.tail))) HRx.out (by rfl) (by simp [Addr.add]) hk) ?_
   refine wQ (l := [.int .i64 x]) Try.func78 rfl (by kernel_rfl) (.bool (bigB x)) (fun wc H => bigC x wc) rfl rfl rfl rfl ?_
   refine wN ?_
   refine tN (wKK hK8 ?_)
   refine wCond (E := bigB x) rfl (fun z2 => ?_) (fun z2 => ?_)
   · skip
     refine wSeqK fun KK9 hK9 => ?_
     refine wReg ?_
     iterate 2 refine p_indexC rfl ?_
     refine wN ?_
     refine tN (wKK hK9 ?_)
     refine wRet ?_
     refine bR (tR (tR (bR (tR ?_))))
     exact wR1 rfl rfl (fun ww H => ⟨_, rfl, any_yes HXx.out z2, H.out.off⟩)
   · skip
     refine wSk ?_
     refine bN (tN (wKK hK6 ?_))
     refine wReg ?_
     refine p_indexC rfl ?_
     refine wI 18 rfl (IntWalk.i64_in _ (by omega)) ?_
     refine p_indexC rfl ?_
     refine wN ?_
     refine tN ?_
     intro aa ww nn dd hs H
     refine ⟨⟨i + 1, (by omega), (Lib.hid (big_next hf.out HXx.out z2)), nn, dd, (sat_sub ⟨rfl, rfl, rfl, rfl, trivial⟩ hs), (Lib.hid (H.out.sub (by repeat (first | exact List.Sublist.refl _ | apply List.Sublist.cons₂ | apply List.Sublist.cons))))⟩, ?_⟩
     have m8 := hs 8 _ rfl
     simp only [mu1_8, m8, intOf]
     omega
 · skip
   have z1d : ¬ (i < ns.length) := of_decide_eq_false z1
   refine wEx ?_
   refine tX (tX (bX (tN (wKK hK2 ?_))))
   refine wSeqK fun KK10 hK10 => ?_
   refine wReg ?_
   refine p_indexC rfl ?_
   refine wN ?_
   refine tN (wKK hK10 ?_)
   refine wRet ?_
   exact wR1 rfl rfl (fun ww H => ⟨-1, rfl, any_no (fun k hk => hf.out k (by omega)), H.out.off⟩)
def tab_containsC : Wk.Tab := []
theorem p_containsC {ops : Array Oper} {rest : List Oper} {o : Oper} {w0 : World} {Q : Exit → Act → World → Prop} {S : List Nat} {R : List Res} {K K' : Wk.Env} {N : Nat} (h : Wk.stp tab_containsC N ops K o = some K') (n : Wk.Wk N S w0 K' R (wpList Try.prog ops Q rest)) : Wk.Wk N S w0 K R (wpList Try.prog ops Q (o :: rest)) := Wk.wP (T := tab_containsC) (by kernel_rfl) h n
set_option maxHeartbeats 16000000 in
set_option maxRecDepth 20000 in
theorem containsC (a : Option Addr) (c : Nat) (ns : List Int) (w : World) (h : (rS a c 1 (ns.map intRow)).holds w) (hl : ns.length ≤ 1000000) : Calls Try.prog 77 #[.slice a ns.length c, .func (.func 78) #[] #[]] w fun e w' => e = .returned (.bool (ns.any bigB)) ∧ Off [] w w' := by
 have H := Lib.hid (Hp.start [] w)
 have H := hp_old H h (by decide)
 clear h
 refine wStart (args := [.slice a ns.length c, .func (.func 78) #[] #[]]) Try.func77 rfl rfl rfl H ?_
 clear H
 show Wk 9 _ _ [(0, .slice a ns.length c), (1, .func (.func 78) #[] #[])] _ _
 refine wSeqK fun KK1 hK1 => ?_
 refine wReg ?_
 refine p_containsC rfl ?_
 refine wN ?_
 refine tN (wKK hK1 ?_)
 refine wSeqK fun KK2 hK2 => ?_
 refine wReg ?_
 iterate 2 refine p_containsC rfl ?_
 refine wC (l := [.slice a ns.length c, .func (.func 78) #[] #[]]) Try.func91 rfl (by kernel_rfl) (fun wc H => indexC a c ns wc (hp_held H (by (repeat (first | exact List.Mem.head _ | apply List.Mem.tail)))) hl) rfl rfl rfl rfl ?_
 intro wc H
 rintro er wd ⟨r1_2, rfl, hr1, hof⟩
 have H2 := hp_fact (Lib.hid (H.out.quiet hof)) hr1
 refine ⟨_, rfl, wkAt H2 ?_⟩
 clear H H2 hof
 iterate 2 refine p_containsC rfl ?_
 refine wN ?_
 refine tN (wKK hK2 ?_)
 refine wRet ?_
 exact wR1 rfl rfl (fun ww H => ⟨congrArg (fun z => Ending.returned (.bool z)) (hp_told H (p := decide (0 ≤ r1_2) = ns.any bigB) (by (repeat (first | exact List.Mem.head _ | apply List.Mem.tail)))), H.out.off⟩)
end Go.Proofs.Ytloemjhhedkhiaa.Nt
