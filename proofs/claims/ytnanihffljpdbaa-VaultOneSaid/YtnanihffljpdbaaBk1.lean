/- Layer 9: books: small functions. -/
import Derived.Test.YtnanihffljpdbaaProg
import Derived.Below
import Derived.WalkKit
import Derived.KernelRfl
import Derived.RowKit3
import Derived.Deep.LoopGhost
import Derived.Deep.QuietTactic
import Derived.BigQuiet
import Derived.WideLaws
import Derived.Deep.DeepCutAuto
import Derived.Deep.CutBlock
import Derived.Lib.Hide
import Derived.Laws.BitsLemmas
import Derived.Laws.Bits64
import Derived.Laws.BitsAllLaws
import Derived.IntWalk
import Derived.Outline
import Derived.WalkSpells
import Derived.Test.YtnanihffljpdbaaGA
import Derived.Test.YtnanihffljpdbaaGB
namespace Go.Proofs.Ytnanihffljpdbaa.Bk
open Go.RowKit Go.Proofs.Ytnanihffljpdbaa.Mem Go.Proofs.Ytnanihffljpdbaa.Reg Go.Proofs.Ytnanihffljpdbaa.Wk Go.Proofs.Ytnanihffljpdbaa.Si Go.Proofs.Ytnanihffljpdbaa.Ca Go.Proofs.Ytnanihffljpdbaa.Sc6
set_option linter.unusedVariables false
set_option linter.unusedSimpArgs false


theorem elCall : ElI Try.prog 30 38 8 64 := ElI.of (by kernel_rfl) (by kernel_rfl) (by decide)
set_option maxRecDepth 20000 in
set_option maxHeartbeats 16000000 in
theorem cloneC (a : Option Addr) (c : Nat) (rows : List (List Value)) (w : World) (h : (rS a c 8 rows).holds w) (hb : rows.length ≤ 1000000) :
    Calls Try.prog 50 #[.slice a rows.length c] w fun e w' => ∃ a' c', e = .returned (.slice a' rows.length c') ∧ (rA a' c' 38 8 rows).holds w' ∧ (∀ q ∈ footA a', w.heap.size ≤ q) ∧ Off [] w w' := by
  have H0 := Lib.hid (Hp.start [] w)
  have H := hp_old H0 h (by decide)
  clear H0
  cases a with
  | none =>
    obtain rfl : rows = [] := by
      rcases h.1 with ⟨_, h0⟩ | ⟨x, c', he, _⟩
      · exact h0
      · cases he
    go_enter Try.func50, Try.ntmps50
    go_wp2_with (simp only [Lib.run_eql_slice_nil _ _ _ _ _ _ _ _ Try.underlying30, Result.andThen_ok, Option.isNone_none, Option.isNone_some])
    go_ret
    exact ⟨none, 0, rfl, ⟨World.ownsRow_nil _ _ _ _, Wf.nil _⟩, by simp [footA], H.out.off⟩
  | some x =>
    go_enter Try.func50, Try.ntmps50
    go_wp2_with (first
      | (simp only [Lib.run_eql_slice_nil _ _ _ _ _ _ _ _ Try.underlying30, Result.andThen_ok, Option.isNone_none, Option.isNone_some])
      | ((with_reducible apply hp_bslice0 elCall H); (focus (exact rfl)); (focus (exact rfl)); intro w5 b5 H5; clear H; have H := H5; clear H5)
      | (at_builtin; refine hp_append elCall H rfl rfl 0 rfl rfl rfl rfl rfl (hp_held H (a := some x) (c := c) (rows := rows) (by simp)) (by simp; omega) (by decide) ?_; intro w6 a6 c6 H6; clear H; have H := H6; clear H6))
    go_ret
    obtain ⟨h1, h2, h3⟩ := hp_giveA H (List.mem_cons_self ..)
    exact ⟨a6, c6, rfl, h1, h2, h3⟩

theorem cloneCC (a : Option Addr) (c : Nat) (xs : List CallV) (w : World) (h : (rS a c 8 (xs.map callRow)).holds w) (hb : xs.length ≤ 1000000) :
    Calls Try.prog 50 #[.slice a xs.length c] w fun e w' => ∃ a' c', e = .returned (.slice a' xs.length c') ∧ (rA a' c' 38 8 (xs.map callRow)).holds w' ∧ (∀ q ∈ footA a', w.heap.size ≤ q) ∧ Off [] w w' := by
  have := cloneC a c (xs.map callRow) w h (by simpa using hb)
  rwa [List.length_map] at this
theorem rS_nil (w : World) (k : Nat) : (rS none 0 k []).holds w := ⟨.inl ⟨rfl, rfl⟩, Wf.nil _⟩
theorem elPair : ElI Try.prog 27 97 9 72 := ElI.of (by kernel_rfl) (by kernel_rfl) (by decide)
theorem newR (room : Int) (w : World) (h : 1 ≤ room ∧ room ≤ 65536) : Calls Try.prog 42 #[.int .i64 room] w fun e w' => e = .returned (.agg #[.int .i64 room, .slice none 0 0]) ∧ Off [] w w' := by
  have := newC room w
  rwa [if_neg (by omega)] at this
def zeroB : BookV := ⟨⟨0, 0, 0, 0, 0, 0, 0, 0, 0, 0, 0, 0, 0, 0, 0, 0, 0, 0⟩, 0, 0, [], [], [0, 0, 0, 0]⟩
theorem ok_zero : OkB zeroB := ⟨by show List.Pairwise _ []; exact List.Pairwise.nil, by decide, by decide, rfl, by decide⟩
def liveV (b : BookV) : List CallV := b.live.map (·.2)
def modeV (b : BookV) (car : Int) : Int := bif carV b.conf car then b.modes.getD (car - 1).toNat 0 else 0
def newModes (n : Int) : List Int := [bif decide (0 < n) then 1 else 0, bif decide (1 < n) then 1 else 0, bif decide (2 < n) then 1 else 0, bif decide (3 < n) then 1 else 0]
def newB (c : Cfg) : BookV := bif checkV c != 0 then zeroB else ⟨c, 0, c.calls, [], [], newModes c.cars⟩
def idxN (xs : List CallV) (id : Int) : Nat := xs.findIdx fun x => x.id == id
def findV (b : BookV) (id : Int) : CallV × Bool := bif (getV id b.live).2 then ((getV id b.live).1, true) else match b.done[idxN b.done id]? with | some x => (x, true) | none => (zeroC, false)
theorem live_next {l : List PairV} {i : Nat} {p : PairV} {ys : List CallV} (h : ys = (l.take i).map (·.2)) (hp : l[i]? = some p) : ys ++ [p.2] = (l.take (i + 1)).map (·.2) := by
  rw [h, List.take_add_one, hp]
  simp
theorem give_A {a : Option Addr} {c e k : Nat} {rows : List (List Value)} {w w' : World} (h : (rA a c e k rows).holds w') (hf : ∀ q ∈ footA a, w.heap.size ≤ q) : (rS a c k rows).holds w' ∧ ∀ q ∈ (rS a c k rows).foot, w.heap.size ≤ q :=
  ⟨⟨rows_owns h.1 rfl h.2.len, h.2⟩, fun q hq => hf q (by
    cases rows with
    | nil => cases hq
    | cons r l => exact hq)⟩
theorem fresh0 {w0 w : World} {R : List Res} (H : Hid (Hp [] w0 w R)) {a : Option Addr} {c e k : Nat} {rows : List (List Value)} {l : Nat} (hl : R[l]? = some (rA a c e k rows)) : ∀ q ∈ footA a, w0.heap.size ≤ q := fun q hq => by
  rcases H.out.newf _ (List.mem_of_getElem? hl) rfl q hq with h | h
  · cases h
  · exact h
theorem idx_stop {xs : List CallV} {i : Nat} {x : CallV} {id : Int} (h : ∀ k, k < i → ∀ y, xs[k]? = some y → (y.id == id) = false) (hx : xs[i]? = some x) (he : (x.id == id) = true) : idxN xs id = i := by
  obtain ⟨hi, rfl⟩ := List.getElem?_eq_some_iff.1 hx
  unfold idxN
  rw [List.findIdx_eq hi]
  exact ⟨he, fun j hj => h j hj _ (List.getElem?_eq_getElem (by omega))⟩
theorem idx_end {xs : List CallV} {id : Int} (h : ∀ k, k < xs.length → ∀ y, xs[k]? = some y → (y.id == id) = false) : idxN xs id = xs.length := by
  unfold idxN
  rw [List.findIdx_eq_length]
  intro x hx
  obtain ⟨k, hk, rfl⟩ := List.getElem_of_mem hx
  exact h k hk _ (List.getElem?_eq_getElem hk)
theorem idx_next {xs : List CallV} {i : Nat} {x : CallV} {id : Int} (h : ∀ k, k < i → ∀ y, xs[k]? = some y → (y.id == id) = false) (hx : xs[i]? = some x) (he : (x.id == id) = false) : ∀ k, k < i + 1 → ∀ y, xs[k]? = some y → (y.id == id) = false := fun k hk y hy => by
  rcases Nat.lt_or_ge k i with h1 | h1
  · exact h k h1 y hy
  · obtain rfl : k = i := by omega
    rw [hx] at hy
    cases hy
    exact he
def idxI (xs : List CallV) (id : Int) : Int := bif decide (idxN xs id < xs.length) then (idxN xs id : Int) else -1
theorem find_live {b : BookV} {id : Int} (h : (getV id b.live).2 = true) : findV b id = ((getV id b.live).1, true) := by unfold findV; rw [h]; rfl
theorem find_done {b : BookV} {id : Int} (h : (getV id b.live).2 = false) {x : CallV} (hx : b.done[idxN b.done id]? = some x) : findV b id = (x, true) := by unfold findV; rw [h, hx]; rfl
theorem find_none {b : BookV} {id : Int} (h : (getV id b.live).2 = false) (hx : ¬ idxN b.done id < b.done.length) : findV b id = (⟨0, 0, 0, 0, 0, 0, 0, 0⟩, false) := by
  unfold findV
  rw [h, List.getElem?_eq_none (by omega)]
  rfl
theorem mode_at {b : BookV} {car : Int} (h : carV b.conf car = true) {m : Nat} (hm : car - 1 = m) : modeV b car = b.modes.getD m 0 := by
  unfold modeV
  rw [h, hm]
  rfl
theorem cfg_in {c : Cfg} (h : (checkV c != 0) = false) : (1 ≤ c.calls ∧ c.calls ≤ 64) ∧ 1 ≤ c.cars ∧ c.cars ≤ 4 := by
  have h1 : cfgOk c = true := by
    cases e : cfgOk c with
    | true => rfl
    | false => rw [checkV_bad e] at h; cases h
  unfold cfgOk at h1
  simp only [Bool.and_eq_true, decide_eq_true_eq] at h1
  omega
theorem car_in {c : Cfg} {n : Int} (h : carV c n = true) : ∃ m : Nat, n - 1 = m ∧ m < 4 := by
  unfold carV at h
  simp only [Bool.and_eq_true, decide_eq_true_eq, beq_iff_eq] at h
  obtain ⟨⟨h1, h2⟩, h3⟩ := h
  have := (cfg_in (c := c) (by rw [h1]; rfl)).2
  exact ⟨(n - 1).toNat, by omega, by omega⟩
theorem tybook_Book : TyI Try.prog 33 26 true [.int .i64 0, .int .i64 0, .int .i64 0, .int .i64 0, .int .i64 0, .int .i64 0, .int .i64 0, .int .i64 0, .int .i64 0, .int .i64 0, .int .i64 0, .int .i64 0, .int .i64 0, .int .i64 0, .int .i64 0, .int .i64 0, .int .i64 0, .int .u32 0, .int .i64 0, .int .i64 0, .slice none 0 0, .slice none 0 0, .int .i64 0, .int .i64 0, .int .i64 0, .int .i64 0] := ⟨by kernel_rfl, by kernel_rfl, by kernel_rfl⟩
theorem tyshelf_Shelf_int__api_Call_ : TyI Try.prog 29 2 true [.int .i64 0, .slice none 0 0] := ⟨by kernel_rfl, by kernel_rfl, by kernel_rfl⟩
theorem tyshelf_Pair_int__api_Call_ : TyI Try.prog 97 9 true [.int .i64 0, .int .i64 0, .int .i64 0, .int .i64 0, .int .i64 0, .int .i64 0, .int .i64 0, .int .i64 0, .int .i64 0] := ⟨by kernel_rfl, by kernel_rfl, by kernel_rfl⟩
theorem tyS_api_Call : TyI Try.prog 30 1 false [.slice none 0 0] := ⟨by kernel_rfl, by kernel_rfl, by kernel_rfl⟩
def tab_indexC : Wk.Tab := [(33, 1, 18)]
theorem p_indexC {ops : Array Oper} {rest : List Oper} {o : Oper} {w0 : World} {Q : Exit → Act → World → Prop} {S : List Nat} {R : List Res} {K K' : Wk.Env} {N : Nat} (h : Wk.stp tab_indexC N ops K o = some K') (n : Wk.Wk N S w0 K' R (wpList Try.prog ops Q rest)) : Wk.Wk N S w0 K R (wpList Try.prog ops Q (o :: rest)) := Wk.wP (T := tab_indexC) (by kernel_rfl) h n
set_option maxHeartbeats 16000000 in
set_option maxRecDepth 20000 in
theorem indexC (b : BookV) (la : Option Addr) (lc : Nat) (da : Option Addr) (dc : Nat) (w : World) (h1 : (rS la lc 9 (b.live.map rowOf)).holds w) (h2 : (rS da dc 8 (b.done.map callRow)).holds w) (hb : Hid (OkB b)) : Calls Try.prog 11 #[.agg (bkA b.conf b.index b.room (.slice la b.live.length lc) (.slice da b.done.length dc) b.modes)] w fun e w' => e = .returned (.int .i64 b.index) ∧ Off [] w w' := by
 have H := Lib.hid (Hp.start [] w)
 have H := hp_old H h1 (by decide)
 have H := hp_old H h2 (by decide)
 clear h1 h2
 refine wStart (args := [.agg (bkA b.conf b.index b.room (.slice la b.live.length lc) (.slice da b.done.length dc) b.modes)]) Try.func11 rfl rfl rfl H ?_
 clear H
 show Wk 5 _ _ [(0, .agg (bkA b.conf b.index b.room (.slice la b.live.length lc) (.slice da b.done.length dc) b.modes))] _ _
 have hbl : (b.live.length : Int) ≤ b.room ∧ b.room ≤ 65536 := hb.out.live
 have hbd : (b.done.length : Int) ≤ b.conf.calls ∧ b.conf.calls ≤ 64 := hb.out.done
 have hbi : 0 ≤ b.index ∧ b.index ≤ 1073741824 := hb.out.index
 refine wSeqK fun KK1 hK1 => ?_
 refine wReg ?_
 refine wBx rfl rfl rfl fun b1 => ?_
 refine p_indexC rfl ?_
 refine wN ?_
 refine tN (wKK hK1 ?_)
 refine wSeqK fun KK2 hK2 => ?_
 refine wReg ?_
 refine p_indexC rfl ?_
 refine wLd rfl tyint 0 rfl rfl ?_
 refine p_indexC rfl ?_
 refine wN ?_
 refine tN (wKK hK2 ?_)
 refine wRet ?_
 exact wR1 rfl rfl (fun ww H => ⟨rfl, H.out.off⟩)
def tab_confC : Wk.Tab := [(33, 0, 0)]
theorem p_confC {ops : Array Oper} {rest : List Oper} {o : Oper} {w0 : World} {Q : Exit → Act → World → Prop} {S : List Nat} {R : List Res} {K K' : Wk.Env} {N : Nat} (h : Wk.stp tab_confC N ops K o = some K') (n : Wk.Wk N S w0 K' R (wpList Try.prog ops Q rest)) : Wk.Wk N S w0 K R (wpList Try.prog ops Q (o :: rest)) := Wk.wP (T := tab_confC) (by kernel_rfl) h n
set_option maxHeartbeats 16000000 in
set_option maxRecDepth 20000 in
theorem confC (b : BookV) (la : Option Addr) (lc : Nat) (da : Option Addr) (dc : Nat) (w : World) (h1 : (rS la lc 9 (b.live.map rowOf)).holds w) (h2 : (rS da dc 8 (b.done.map callRow)).holds w) (hb : Hid (OkB b)) : Calls Try.prog 56 #[.agg (bkA b.conf b.index b.room (.slice la b.live.length lc) (.slice da b.done.length dc) b.modes)] w fun e w' => e = .returned (.agg #[.int .i64 b.conf.floors, .int .i64 b.conf.cars, .int .i64 b.conf.seats, .int .i64 b.conf.calls, .int .i64 b.conf.lines, .int .i64 b.conf.keys, .int .i64 b.conf.window, .int .i64 b.conf.burst, .int .i64 b.conf.rate, .int .i64 b.conf.idle, .int .i64 b.conf.inn, .int .i64 b.conf.out, .int .i64 b.conf.feed, .int .i64 b.conf.retries, .int .i64 b.conf.life, .int .i64 b.conf.door, .int .i64 b.conf.holds, .int .u32 b.conf.secret]) ∧ Off [] w w' := by
 have H := Lib.hid (Hp.start [] w)
 have H := hp_old H h1 (by decide)
 have H := hp_old H h2 (by decide)
 clear h1 h2
 refine wStart (args := [.agg (bkA b.conf b.index b.room (.slice la b.live.length lc) (.slice da b.done.length dc) b.modes)]) Try.func56 rfl rfl rfl H ?_
 clear H
 show Wk 5 _ _ [(0, .agg (bkA b.conf b.index b.room (.slice la b.live.length lc) (.slice da b.done.length dc) b.modes))] _ _
 have hbl : (b.live.length : Int) ≤ b.room ∧ b.room ≤ 65536 := hb.out.live
 have hbd : (b.done.length : Int) ≤ b.conf.calls ∧ b.conf.calls ≤ 64 := hb.out.done
 have hbi : 0 ≤ b.index ∧ b.index ≤ 1073741824 := hb.out.index
 refine wSeqK fun KK1 hK1 => ?_
 refine wReg ?_
 refine wBx rfl rfl rfl fun b1 => ?_
 refine wAl rfl rfl tyapi_Config fun b2 => ?_
 refine wN ?_
 refine tN (wKK hK1 ?_)
 refine wSeqK fun KK2 hK2 => ?_
 refine wReg ?_
 refine p_confC rfl ?_
 refine wLr rfl tyapi_Config 1 rfl (cL b.conf) rfl rfl ?_
 refine wSr rfl tyapi_Config 0 rfl rfl rfl rfl (cL b.conf) (by first | rfl | (simp only [spl]; rfl)) ?_
 refine wN ?_
 refine tN (wKK hK2 ?_)
 refine wRet ?_
 exact wRc tyapi_Config rfl rfl 0 rfl rfl (fun ww H => ⟨rfl, H.out.off⟩)
def tab_isNoneC : Wk.Tab := [(33, 2, 19)]
theorem p_isNoneC {ops : Array Oper} {rest : List Oper} {o : Oper} {w0 : World} {Q : Exit → Act → World → Prop} {S : List Nat} {R : List Res} {K K' : Wk.Env} {N : Nat} (h : Wk.stp tab_isNoneC N ops K o = some K') (n : Wk.Wk N S w0 K' R (wpList Try.prog ops Q rest)) : Wk.Wk N S w0 K R (wpList Try.prog ops Q (o :: rest)) := Wk.wP (T := tab_isNoneC) (by kernel_rfl) h n
set_option maxHeartbeats 16000000 in
set_option maxRecDepth 20000 in
theorem isNoneC (b : BookV) (la : Option Addr) (lc : Nat) (da : Option Addr) (dc : Nat) (w : World) (h1 : (rS la lc 9 (b.live.map rowOf)).holds w) (h2 : (rS da dc 8 (b.done.map callRow)).holds w) (hb : Hid (OkB b)) : Calls Try.prog 46 #[.agg (bkA b.conf b.index b.room (.slice la b.live.length lc) (.slice da b.done.length dc) b.modes)] w fun e w' => e = .returned (.bool (b.room == 0)) ∧ Off [] w w' := by
 have H := Lib.hid (Hp.start [] w)
 have H := hp_old H h1 (by decide)
 have H := hp_old H h2 (by decide)
 clear h1 h2
 refine wStart (args := [.agg (bkA b.conf b.index b.room (.slice la b.live.length lc) (.slice da b.done.length dc) b.modes)]) Try.func46 rfl rfl rfl H ?_
 clear H
 show Wk 7 _ _ [(0, .agg (bkA b.conf b.index b.room (.slice la b.live.length lc) (.slice da b.done.length dc) b.modes))] _ _
 have hbl : (b.live.length : Int) ≤ b.room ∧ b.room ≤ 65536 := hb.out.live
 have hbd : (b.done.length : Int) ≤ b.conf.calls ∧ b.conf.calls ≤ 64 := hb.out.done
 have hbi : 0 ≤ b.index ∧ b.index ≤ 1073741824 := hb.out.index
 refine wSeqK fun KK1 hK1 => ?_
 refine wReg ?_
 refine wBx rfl rfl rfl fun b1 => ?_
 refine p_isNoneC rfl ?_
 refine wN ?_
 refine tN (wKK hK1 ?_)
 refine wSeqK fun KK2 hK2 => ?_
 refine wReg ?_
 refine p_isNoneC rfl ?_
 refine wLr rfl tyshelf_Shelf_int__api_Call_ 0 rfl [.int .i64 b.room, .slice la b.live.length lc] rfl rfl ?_
 refine wQ (l := [.agg #[.int .i64 b.room, .slice la b.live.length lc]]) Try.func70 rfl (by kernel_rfl) (.int .i64 b.room) (fun wc H => roomC b.room (.slice la b.live.length lc) wc) rfl rfl rfl rfl ?_
 iterate 2 refine p_isNoneC rfl ?_
 refine wN ?_
 refine tN (wKK hK2 ?_)
 refine wRet ?_
 exact wR1 rfl rfl (fun ww H => ⟨rfl, H.out.off⟩)
def tab_doneC : Wk.Tab := [(33, 3, 21)]
theorem p_doneC {ops : Array Oper} {rest : List Oper} {o : Oper} {w0 : World} {Q : Exit → Act → World → Prop} {S : List Nat} {R : List Res} {K K' : Wk.Env} {N : Nat} (h : Wk.stp tab_doneC N ops K o = some K') (n : Wk.Wk N S w0 K' R (wpList Try.prog ops Q rest)) : Wk.Wk N S w0 K R (wpList Try.prog ops Q (o :: rest)) := Wk.wP (T := tab_doneC) (by kernel_rfl) h n
set_option maxHeartbeats 16000000 in
set_option maxRecDepth 20000 in
theorem doneC (b : BookV) (la : Option Addr) (lc : Nat) (da : Option Addr) (dc : Nat) (w : World) (h1 : (rS la lc 9 (b.live.map rowOf)).holds w) (h2 : (rS da dc 8 (b.done.map callRow)).holds w) (hb : Hid (OkB b)) : Calls Try.prog 17 #[.agg (bkA b.conf b.index b.room (.slice la b.live.length lc) (.slice da b.done.length dc) b.modes)] w fun e w' => ∃ a' c', e = .returned (.slice a' b.done.length c') ∧ (rS a' c' 8 (b.done.map callRow)).holds w' ∧ (∀ q ∈ (rS a' c' 8 (b.done.map callRow)).foot, w.heap.size ≤ q) ∧ Off [] w w' := by
 have H := Lib.hid (Hp.start [] w)
 have H := hp_old H h1 (by decide)
 have H := hp_old H h2 (by decide)
 clear h1 h2
 refine wStart (args := [.agg (bkA b.conf b.index b.room (.slice la b.live.length lc) (.slice da b.done.length dc) b.modes)]) Try.func17 rfl rfl rfl H ?_
 clear H
 show Wk 6 _ _ [(0, .agg (bkA b.conf b.index b.room (.slice la b.live.length lc) (.slice da b.done.length dc) b.modes))] _ _
 have hbl : (b.live.length : Int) ≤ b.room ∧ b.room ≤ 65536 := hb.out.live
 have hbd : (b.done.length : Int) ≤ b.conf.calls ∧ b.conf.calls ≤ 64 := hb.out.done
 have hbi : 0 ≤ b.index ∧ b.index ≤ 1073741824 := hb.out.index
 refine wSeqK fun KK1 hK1 => ?_
 refine wReg ?_
 refine wBx rfl rfl rfl fun b1 => ?_
 refine p_doneC rfl ?_
 refine wN ?_
 refine tN (wKK hK1 ?_)
 refine wSeqK fun KK2 hK2 => ?_
 refine wReg ?_
 refine p_doneC rfl ?_
 refine wLd rfl tyS_api_Call 0 rfl rfl ?_
 refine wC (l := [.slice da b.done.length dc]) Try.func50 rfl (by kernel_rfl) (fun wc H => cloneCC da dc b.done wc (hp_held H (by (repeat (first | exact List.Mem.head _ | apply List.Mem.tail)))) (by omega)) rfl rfl rfl rfl ?_
 intro wc H
 rintro er wd ⟨a1_2, c1_2, rfl, hA1, hA2, hof⟩
 have H2 := hp_gotA H hof hA1 hA2
 refine ⟨_, rfl, wkAt H2 ?_⟩
 clear H H2 hof
 refine p_doneC rfl ?_
 refine wN ?_
 refine tN (wKK hK2 ?_)
 refine wRet ?_
 exact wR1 rfl rfl (fun ww H => (by have hg := give_A (H.out.at 0 rfl) (fresh0 H (l := 0) rfl); exact ⟨a1_2, c1_2, rfl, hg.1, hg.2, H.out.off⟩))
def tab_liveC : Wk.Tab := [(33, 2, 19), (97, 1, 1)]
theorem p_liveC {ops : Array Oper} {rest : List Oper} {o : Oper} {w0 : World} {Q : Exit → Act → World → Prop} {S : List Nat} {R : List Res} {K K' : Wk.Env} {N : Nat} (h : Wk.stp tab_liveC N ops K o = some K') (n : Wk.Wk N S w0 K' R (wpList Try.prog ops Q rest)) : Wk.Wk N S w0 K R (wpList Try.prog ops Q (o :: rest)) := Wk.wP (T := tab_liveC) (by kernel_rfl) h n
set_option maxHeartbeats 16000000 in
set_option maxRecDepth 20000 in
theorem liveC (b : BookV) (la : Option Addr) (lc : Nat) (da : Option Addr) (dc : Nat) (w : World) (h1 : (rS la lc 9 (b.live.map rowOf)).holds w) (h2 : (rS da dc 8 (b.done.map callRow)).holds w) (hb : Hid (OkB b)) : Calls Try.prog 12 #[.agg (bkA b.conf b.index b.room (.slice la b.live.length lc) (.slice da b.done.length dc) b.modes)] w fun e w' => ∃ a' c', e = .returned (.slice a' (liveV b).length c') ∧ (rS a' c' 8 ((liveV b).map callRow)).holds w' ∧ (∀ q ∈ (rS a' c' 8 ((liveV b).map callRow)).foot, w.heap.size ≤ q) ∧ Off [] w w' := by
 have H := Lib.hid (Hp.start [] w)
 have H := hp_old H h1 (by decide)
 have H := hp_old H h2 (by decide)
 clear h1 h2
 refine wStart (args := [.agg (bkA b.conf b.index b.room (.slice la b.live.length lc) (.slice da b.done.length dc) b.modes)]) Try.func12 rfl rfl rfl H ?_
 clear H
 show Wk 21 _ _ [(0, .agg (bkA b.conf b.index b.room (.slice la b.live.length lc) (.slice da b.done.length dc) b.modes))] _ _
 have hbl : (b.live.length : Int) ≤ b.room ∧ b.room ≤ 65536 := hb.out.live
 have hbd : (b.done.length : Int) ≤ b.conf.calls ∧ b.conf.calls ≤ 64 := hb.out.done
 have hbi : 0 ≤ b.index ∧ b.index ≤ 1073741824 := hb.out.index
 refine wSeqK fun KK1 hK1 => ?_
 refine wReg ?_
 refine wBx rfl rfl rfl fun b1 => ?_
 refine p_liveC rfl ?_
 refine wN ?_
 refine tN (wKK hK1 ?_)
 refine wSeqK fun KK2 hK2 => ?_
 refine wReg ?_
 refine p_liveC rfl ?_
 refine wN ?_
 refine tN (wKK hK2 ?_)
 refine wSeqK fun KK3 hK3 => ?_
 refine wSeqK fun KK4 hK4 => ?_
 refine wReg ?_
 refine p_liveC rfl ?_
 refine wLr rfl tyshelf_Shelf_int__api_Call_ 0 rfl [.int .i64 b.room, .slice la b.live.length lc] rfl rfl ?_
 refine wC (l := [.agg #[.int .i64 b.room, .slice la b.live.length lc]]) Try.func43 rfl (by kernel_rfl) (fun wc H => listC b.room la lc b.live wc (hp_held H (by (repeat (first | exact List.Mem.head _ | apply List.Mem.tail)))) (by omega)) rfl rfl rfl rfl ?_
 intro wc H
 rintro er wd ⟨a2_2, c2_2, rfl, hgv⟩
 have H2 := hp_got H hgv.2.2 hgv.1 (by decide) hgv.2.1 (by simp)
 refine ⟨_, rfl, wkAt H2 ?_⟩
 clear H H2
 refine wE (.int .i64 b.live.length) rfl rfl rfl (fun aa ww hs _ => by have e8 := hs 8 _ rfl; have g8 := gt_of e8; simp only [execOp]; go_simp <;> first | rfl | omega) ?_
 refine p_liveC rfl ?_
 refine wN ?_
 refine tN (wKK hK4 ?_)
 refine wBlk ?_
 intro aa ww nn dd hs H
 have H := hp_nil H 38 8
 replace H : Hid (Hp [] w ww [rA none 0 38 8 (([] : List CallV).map callRow), rS a2_2 c2_2 9 (b.live.map rowOf), rB b1 33 (bkL b.conf b.index b.room (.slice la b.live.length lc) (.slice da b.done.length dc) b.modes), rS da dc 8 (b.done.map callRow), rS la lc 9 (b.live.map rowOf)]) := H
 refine wIn nn dd hs H ?_
 refine wLoop (fun ab wv => ∃ i : Nat, ∃ a : Option Addr, ∃ c : Nat, ∃ ys : List CallV, (i ≤ b.live.length) ∧ (ys.length = i) ∧ (Hid (ys = (b.live.take i).map (·.2))) ∧ ab.tmps.size = 21 ∧ ab.defers = [] ∧ Sat [(0, .agg (bkA b.conf b.index b.room (.slice la b.live.length lc) (.slice da b.done.length dc) b.modes)), (1, .pointer (some ⟨b1, 0, none⟩)), (2, .slice none 0 0), (3, .slice a ys.length c), (8, .slice a2_2 b.live.length c2_2), (9, .int .i64 b.live.length), (10, .int .i64 i)] ab ∧ Hid (Hp [] w wv [rA a c 38 8 (ys.map callRow), rS a2_2 c2_2 9 (b.live.map rowOf), rB b1 33 (bkL b.conf b.index b.room (.slice la b.live.length lc) (.slice da b.done.length dc) b.modes), rS da dc 8 (b.done.map callRow), rS la lc 9 (b.live.map rowOf)])) (fun ab _ => b.live.length - (intOf (ab.eval (.tmp 10))).toNat) (fun aa ww nn dd hs H => ⟨0, none, 0, [], (Nat.zero_le _), rfl, (Lib.hid rfl), nn, dd, (sat_sub ⟨rfl, rfl, rfl, rfl, rfl, rfl, rfl, trivial⟩ hs), H⟩) ?_
 rintro a1 wv ⟨i, a, c, ys, hi, hyl, hy, nn, dd, hs, H⟩
 have mu1_10 := hs 10 _ rfl
 refine wIn nn dd hs H ?_
 clear nn dd hs H
 refine wSeqK fun KK5 hK5 => ?_
 refine wReg ?_
 refine p_liveC rfl ?_
 refine wB (c := decide (i < b.live.length)) 11 rfl (by simp) ?_
 refine wN ?_
 refine tN (wKK hK5 ?_)
 refine wSeqK fun KK6 hK6 => ?_
 refine wCond (E := decide (i < b.live.length)) rfl (fun z1 => ?_) (fun z1 => ?_)
 · skip
   have z1d : i < b.live.length := of_decide_eq_true z1
   intro aa ww nn dd hs H
   obtain ⟨yp, rfl⟩ := some_of_row (hp_held H (show rS a2_2 c2_2 9 (b.live.map rowOf) ∈ _ by simp)) (i := i) (by simp; omega)
   obtain ⟨p, hp⟩ : ∃ p, b.live[i]? = some p := ⟨b.live[i], List.getElem?_eq_getElem (by omega)⟩
   have HRp := Lib.hid (show (b.live.map rowOf)[i]? = some [.int .i64 p.1, .int .i64 p.2.id, .int .i64 p.2.kind, .int .i64 p.2.src, .int .i64 p.2.dst, .int .i64 p.2.car, .int .i64 p.2.state, .int .i64 p.2.owner, .int .i64 p.2.born] by rw [List.getElem?_map, hp]; rfl)
   have HXp := Lib.hid hp
   clear hp
   refine wIn nn dd hs H ?_
   refine wSk ?_
   refine tN (wKK hK6 ?_)
   refine wSeqK fun KK7 hK7 => ?_
   refine wBlk ?_
   refine wSeqK fun KK8 hK8 => ?_
   refine wReg ?_
   refine wE (.pointer (some (yp.add (i * 9)))) rfl rfl rfl (fun aa ww hs _ => by have e8 := hs 8 _ rfl; have g8 := gt_of e8; have e10 := hs 10 _ rfl; have g10 := gt_of e10; simp only [execOp]; go_simp <;> first | rfl | omega) ?_
   refine wX 13 (.agg #[.int .i64 p.1, .int .i64 p.2.id, .int .i64 p.2.kind, .int .i64 p.2.src, .int .i64 p.2.dst, .int .i64 p.2.car, .int .i64 p.2.state, .int .i64 p.2.owner, .int .i64 p.2.born]) rfl (fun aa ww KK hs H _ hk => hpS_load tyshelf_Pair_int__api_Call_ H (y := yp) rfl (hs _ _ rfl) (wnt_ok hs rfl) (by (repeat (first | exact List.Mem.head _ | apply List.Mem.tail))) HRp.out rfl hk) ?_
   refine wAl rfl rfl tyshelf_Pair_int__api_Call_ fun b5 => ?_
   refine wSr rfl tyshelf_Pair_int__api_Call_ 0 rfl rfl rfl rfl [.int .i64 p.1, .int .i64 p.2.id, .int .i64 p.2.kind, .int .i64 p.2.src, .int .i64 p.2.dst, .int .i64 p.2.car, .int .i64 p.2.state, .int .i64 p.2.owner, .int .i64 p.2.born] (by first | rfl | (simp only [spl]; rfl)) ?_
   refine wN ?_
   refine tN (wKK hK8 ?_)
   refine wReg ?_
   iterate 2 refine p_liveC rfl ?_
   refine wLr rfl tyapi_Call 0 rfl (xL p.2) rfl rfl ?_
   refine wBs (cs := (xL p.2)) rfl rfl rfl rfl Try.underlying30 tyapi_Call rfl (by decide) (by decide) (by kernel_rfl) fun b17 => ?_
   intro aa ww nn dd hs H
   refine hp_append (news := [callRow p.2]) elCall H rfl rfl 2 rfl (hs _ _ rfl) (by simp) (hs _ _ rfl) rfl (hp_single (e := 38) H (List.mem_of_getElem? (i := 0) rfl) rfl (by simp [callRow, Value.oneCell'])) (by simp; omega) (by decide) ?_
   intro wd a18 c18 H2
   rw [show ys.map callRow ++ [callRow p.2] = (ys ++ [p.2]).map callRow by simp] at H2 ⊢
   rw [List.length_map]
   refine wGo (v := .slice a18 ((ys ++ [p.2]).length) c18) nn dd hs rfl H2 ?_
   clear nn dd hs H H2
   refine p_liveC rfl ?_
   refine wN ?_
   refine bN (tN (wKK hK7 ?_))
   refine wReg ?_
   refine p_liveC rfl ?_
   refine wI 19 rfl (IntWalk.i64_in _ (by omega)) ?_
   refine p_liveC rfl ?_
   refine wN ?_
   refine tN ?_
   intro aa ww nn dd hs H
   replace H := hp_front H 6 rfl
   replace H := hp_front H 6 rfl
   replace H := hp_front H 6 rfl
   replace H := hp_front H 6 rfl
   replace H := hp_front H 6 rfl
   refine ⟨⟨i + 1, a18, c18, (ys ++ [p.2]), (by omega), (by simp; omega), (Lib.hid (live_next hy.out HXp.out)), nn, dd, (sat_sub ⟨rfl, rfl, rfl, rfl, rfl, rfl, rfl, trivial⟩ hs), (hp_take H 5)⟩, ?_⟩
   have m10 := hs 10 _ rfl
   simp only [mu1_10, m10, intOf]
   omega
 · skip
   have z1d : ¬ (i < b.live.length) := of_decide_eq_false z1
   refine wEx ?_
   refine tX (tX (bX (tN (wKK hK3 ?_))))
   refine wSeqK fun KK9 hK9 => ?_
   refine wReg ?_
   iterate 2 refine p_liveC rfl ?_
   refine wN ?_
   refine tN (wKK hK9 ?_)
   refine wRet ?_
   exact wR1 rfl rfl (fun ww H => (by have hg := give_A (H.out.at 0 rfl) (fresh0 H (l := 0) rfl); have e2 : ys = liveV b := (by rw [hy.out, List.take_of_length_le (by omega)]; rfl); rw [e2] at hg ⊢; exact ⟨a, c, rfl, hg.1, hg.2, H.out.off⟩))
def tab_find1B : Wk.Tab := [(38, 0, 0)]
theorem p_find1B {ops : Array Oper} {rest : List Oper} {o : Oper} {w0 : World} {Q : Exit → Act → World → Prop} {S : List Nat} {R : List Res} {K K' : Wk.Env} {N : Nat} (h : Wk.stp tab_find1B N ops K o = some K') (n : Wk.Wk N S w0 K' R (wpList Try.prog ops Q rest)) : Wk.Wk N S w0 K R (wpList Try.prog ops Q (o :: rest)) := Wk.wP (T := tab_find1B) (by kernel_rfl) h n
set_option maxHeartbeats 16000000 in
set_option maxRecDepth 20000 in
theorem find1B (x : CallV) (g : Nat) (id : Int) (w : World) (hg : Blk w g #[.int .i64 id] 3) : Calls Try.prog 55 #[.agg (xA x), .pointer (some ⟨g, 0, none⟩)] w fun e w' => e = .returned (.bool (x.id == id)) ∧ Off [] w w' := by
 have H := Lib.hid (Hp.start [] w)
 have H := hp_oldK H (cs := [.int .i64 id]) hg
 clear hg
 refine wStart (args := [.agg (xA x), .pointer (some ⟨g, 0, none⟩)]) Try.func55 rfl rfl rfl H ?_
 clear H
 show Wk 8 _ _ [(0, .agg (xA x)), (1, .pointer (some ⟨g, 0, none⟩))] _ _
 refine wSeqK fun KK1 hK1 => ?_
 refine wReg ?_
 refine wBx rfl rfl rfl fun b2 => ?_
 refine p_find1B rfl ?_
 refine wN ?_
 refine tN (wKK hK1 ?_)
 refine wSeqK fun KK2 hK2 => ?_
 refine wReg ?_
 refine p_find1B rfl ?_
 refine wLd rfl tyint 0 rfl rfl ?_
 refine wKd rfl tyint 1 rfl rfl ?_
 iterate 2 refine p_find1B rfl ?_
 refine wN ?_
 refine tN (wKK hK2 ?_)
 refine wRet ?_
 exact wR1 rfl rfl (fun ww H => ⟨rfl, H.out.off⟩)
def tab_indexF : Wk.Tab := []
theorem p_indexF {ops : Array Oper} {rest : List Oper} {o : Oper} {w0 : World} {Q : Exit → Act → World → Prop} {S : List Nat} {R : List Res} {K K' : Wk.Env} {N : Nat} (h : Wk.stp tab_indexF N ops K o = some K') (n : Wk.Wk N S w0 K' R (wpList Try.prog ops Q rest)) : Wk.Wk N S w0 K R (wpList Try.prog ops Q (o :: rest)) := Wk.wP (T := tab_indexF) (by kernel_rfl) h n
set_option maxHeartbeats 16000000 in
set_option maxRecDepth 20000 in
theorem indexF (a : Option Addr) (c : Nat) (xs : List CallV) (g : Nat) (id : Int) (w : World) (h1 : (rS a c 8 (xs.map callRow)).holds w) (hg : Blk w g #[.int .i64 id] 3) (hx : xs.length ≤ 1000000) : Calls Try.prog 54 #[.slice a xs.length c, .func (.func 55) #[] #[.pointer (some ⟨g, 0, none⟩)]] w fun e w' => e = .returned (.int .i64 (idxI xs id)) ∧ Off [] w w' := by
 have H := Lib.hid (Hp.start [] w)
 have H := hp_oldK H (cs := [.int .i64 id]) hg
 have H := hp_old H h1 (by decide)
 clear h1 hg
 refine wStart (args := [.slice a xs.length c, .func (.func 55) #[] #[.pointer (some ⟨g, 0, none⟩)]]) Try.func54 rfl rfl rfl H ?_
 clear H
 show Wk 19 _ _ [(0, .slice a xs.length c), (1, .func (.func 55) #[] #[.pointer (some ⟨g, 0, none⟩)])] _ _
 refine wSeqK fun KK1 hK1 => ?_
 refine wReg ?_
 refine p_indexF rfl ?_
 refine wN ?_
 refine tN (wKK hK1 ?_)
 refine wSeqK fun KK2 hK2 => ?_
 refine wSeqK fun KK3 hK3 => ?_
 refine wReg ?_
 refine p_indexF rfl ?_
 refine wE (.int .i64 xs.length) rfl rfl rfl (fun aa ww hs _ => by have e6 := hs 6 _ rfl; have g6 := gt_of e6; simp only [execOp]; go_simp <;> first | rfl | omega) ?_
 refine p_indexF rfl ?_
 refine wN ?_
 refine tN (wKK hK3 ?_)
 refine wBlk ?_
 refine wLoop (fun ab wv => ∃ i : Nat, (i ≤ xs.length) ∧ (Hid (∀ k, k < i → ∀ y, xs[k]? = some y → (y.id == id) = false)) ∧ ab.tmps.size = 19 ∧ ab.defers = [] ∧ Sat [(0, .slice a xs.length c), (1, .func (.func 55) #[] #[.pointer (some ⟨g, 0, none⟩)]), (7, .int .i64 xs.length), (8, .int .i64 i)] ab ∧ Hid (Hp [] w wv [rS a c 8 (xs.map callRow), rK g 3 [.int .i64 id]])) (fun ab _ => xs.length - (intOf (ab.eval (.tmp 8))).toNat) (fun aa ww nn dd hs H => ⟨0, (Nat.zero_le _), (Lib.hid (fun k hk => absurd hk (by omega))), nn, dd, (sat_sub ⟨rfl, rfl, rfl, rfl, trivial⟩ hs), H⟩) ?_
 rintro a1 wv ⟨i, hi, hn, nn, dd, hs, H⟩
 have mu1_8 := hs 8 _ rfl
 refine wIn nn dd hs H ?_
 clear nn dd hs H
 refine wSeqK fun KK4 hK4 => ?_
 refine wReg ?_
 refine p_indexF rfl ?_
 refine wB (c := decide (i < xs.length)) 9 rfl (by simp) ?_
 refine wN ?_
 refine tN (wKK hK4 ?_)
 refine wSeqK fun KK5 hK5 => ?_
 refine wCond (E := decide (i < xs.length)) rfl (fun z1 => ?_) (fun z1 => ?_)
 · skip
   have z1d : i < xs.length := of_decide_eq_true z1
   intro aa ww nn dd hs H
   obtain ⟨yx, rfl⟩ := some_of_row (hp_held H (show rS a c 8 (xs.map callRow) ∈ _ by simp)) (i := i) (by simp; omega)
   obtain ⟨x, hx⟩ : ∃ x, xs[i]? = some x := ⟨xs[i], List.getElem?_eq_getElem (by omega)⟩
   have HRx := Lib.hid (show (xs.map callRow)[i]? = some [.int .i64 x.id, .int .i64 x.kind, .int .i64 x.src, .int .i64 x.dst, .int .i64 x.car, .int .i64 x.state, .int .i64 x.owner, .int .i64 x.born] by rw [List.getElem?_map, hx]; rfl)
   have HXx := Lib.hid hx
   clear hx
   refine wIn nn dd hs H ?_
   refine wSk ?_
   refine tN (wKK hK5 ?_)
   refine wSeqK fun KK6 hK6 => ?_
   refine wBlk ?_
   refine wSeqK fun KK7 hK7 => ?_
   refine wReg ?_
   iterate 2 refine p_indexF rfl ?_
   refine wN ?_
   refine tN (wKK hK7 ?_)
   refine wSeqK fun KK8 hK8 => ?_
   refine wReg ?_
   iterate 3 refine p_indexF rfl ?_
   refine wE (.pointer (some (yx.add (i * 8)))) rfl rfl rfl (fun aa ww hs _ => by have e12 := hs 12 _ rfl; have g12 := gt_of e12; have e13 := hs 13 _ rfl; have g13 := gt_of e13; simp only [execOp]; go_simp <;> first | rfl | omega) ?_
   refine wX 15 (.agg (xA x)) rfl (fun aa ww KK hs H _ hk => hpS_load tyapi_Call H (y := yx) rfl (hs _ _ rfl) (wnt_ok hs rfl) (by (repeat (first | exact List.Mem.head _ | apply List.Mem.tail))) HRx.out rfl hk) ?_
   refine wQ (l := [.agg (xA x), .pointer (some ⟨g, 0, none⟩)]) Try.func55 rfl (by kernel_rfl) (.bool (x.id == id)) (fun wc H => find1B x g id wc (H.out.holds (rK g 3 [.int .i64 id]) (by (repeat (first | exact List.Mem.head _ | apply List.Mem.tail))))) rfl rfl rfl rfl ?_
   refine wN ?_
   refine tN (wKK hK8 ?_)
   refine wCond (E := x.id == id) rfl (fun z2 => ?_) (fun z2 => ?_)
   · skip
     have z2o : (x.id != id) = false := eqq_t z2
     refine wSeqK fun KK9 hK9 => ?_
     refine wReg ?_
     iterate 2 refine p_indexF rfl ?_
     refine wN ?_
     refine tN (wKK hK9 ?_)
     refine wRet ?_
     refine bR (tR (tR (bR (tR ?_))))
     exact wR1 rfl rfl (fun ww H => ⟨by unfold idxI; rw [idx_stop hn.out HXx.out z2, decide_eq_true (by omega)]; rfl, H.out.off⟩)
   · skip
     have z2o : (x.id != id) = true := eqq_f z2
     refine wSk ?_
     refine bN (tN (wKK hK6 ?_))
     refine wReg ?_
     refine p_indexF rfl ?_
     refine wI 18 rfl (IntWalk.i64_in _ (by omega)) ?_
     refine p_indexF rfl ?_
     refine wN ?_
     refine tN ?_
     intro aa ww nn dd hs H
     refine ⟨⟨i + 1, (by omega), (Lib.hid (idx_next hn.out HXx.out z2)), nn, dd, (sat_sub ⟨rfl, rfl, rfl, rfl, trivial⟩ hs), (Lib.hid (H.out.sub (by repeat (first | exact List.Sublist.refl _ | apply List.Sublist.cons₂ | apply List.Sublist.cons))))⟩, ?_⟩
     have m8 := hs 8 _ rfl
     simp only [mu1_8, m8, intOf]
     omega
 · skip
   have z1d : ¬ (i < xs.length) := of_decide_eq_false z1
   refine wEx ?_
   refine tX (tX (bX (tN (wKK hK2 ?_))))
   refine wSeqK fun KK10 hK10 => ?_
   refine wReg ?_
   refine p_indexF rfl ?_
   refine wN ?_
   refine tN (wKK hK10 ?_)
   refine wRet ?_
   exact wR1 rfl rfl (fun ww H => ⟨by unfold idxI; rw [idx_end (fun k hk => hn.out k (by omega)), decide_eq_false (by omega)]; rfl, H.out.off⟩)
end Go.Proofs.Ytnanihffljpdbaa.Bk
