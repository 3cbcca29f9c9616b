/- Layer 11: vault: its parts. -/
import Derived.Test.YtnanihffljpdbaaProg
import Derived.Below
import Derived.WalkKit
import Derived.KernelRfl
import Derived.RowKit3
import Derived.Deep.LoopGhost
import Derived.Deep.QuietTactic
import Derived.BigQuiet
import Derived.WideLaws
import Derived.Deep.DeepCutAuto
import Derived.Deep.CutBlock
import Derived.Lib.Hide
import Derived.Laws.BitsLemmas
import Derived.Laws.Bits64
import Derived.Laws.BitsAllLaws
import Derived.IntWalk
import Derived.Outline
import Derived.WalkSpells
import Derived.Test.YtnanihffljpdbaaGA
import Derived.Test.YtnanihffljpdbaaVlt
namespace Go.Proofs.Ytnanihffljpdbaa.Bk
open Go.RowKit Go.Proofs.Ytnanihffljpdbaa.Mem Go.Proofs.Ytnanihffljpdbaa.Reg Go.Proofs.Ytnanihffljpdbaa.Wk Go.Proofs.Ytnanihffljpdbaa.Si Go.Proofs.Ytnanihffljpdbaa.Ca Go.Proofs.Ytnanihffljpdbaa.Sc6 Go.Proofs.Ytnanihffljpdbaa.Vt
set_option linter.unusedVariables false
set_option linter.unusedSimpArgs false

theorem from_nil {w : World} {foot : List Nat} (h : From w [] foot) : ∀ q ∈ foot, w.heap.size ≤ q := fun q hq => by
  rcases h q hq with h1 | ⟨r, hr, _⟩
  · exact h1
  · cases hr
def kyL (kc : Cfg) (kr : Int) : List Value := [.int .i64 kc.floors, .int .i64 kc.cars, .int .i64 kc.seats, .int .i64 kc.calls, .int .i64 kc.lines, .int .i64 kc.keys, .int .i64 kc.window, .int .i64 kc.burst, .int .i64 kc.rate, .int .i64 kc.idle, .int .i64 kc.inn, .int .i64 kc.out, .int .i64 kc.feed, .int .i64 kc.retries, .int .i64 kc.life, .int .i64 kc.door, .int .i64 kc.holds, .int .u32 kc.secret, .int .i64 kr, .slice none 0 0]
def kyA (kc : Cfg) (kr : Int) : Array Value := #[.int .i64 kc.floors, .int .i64 kc.cars, .int .i64 kc.seats, .int .i64 kc.calls, .int .i64 kc.lines, .int .i64 kc.keys, .int .i64 kc.window, .int .i64 kc.burst, .int .i64 kc.rate, .int .i64 kc.idle, .int .i64 kc.inn, .int .i64 kc.out, .int .i64 kc.feed, .int .i64 kc.retries, .int .i64 kc.life, .int .i64 kc.door, .int .i64 kc.holds, .int .u32 kc.secret, .int .i64 kr, .slice none 0 0]
def snL (c : Cfg) (ix rm : Int) (lv dn : Value) (ms : List Int) (kc : Cfg) (kr now : Int) : List Value := [.int .i64 c.floors, .int .i64 c.cars, .int .i64 c.seats, .int .i64 c.calls, .int .i64 c.lines, .int .i64 c.keys, .int .i64 c.window, .int .i64 c.burst, .int .i64 c.rate, .int .i64 c.idle, .int .i64 c.inn, .int .i64 c.out, .int .i64 c.feed, .int .i64 c.retries, .int .i64 c.life, .int .i64 c.door, .int .i64 c.holds, .int .u32 c.secret, .int .i64 ix, .int .i64 rm, lv, dn, .int .i64 (ms.getD 0 0), .int .i64 (ms.getD 1 0), .int .i64 (ms.getD 2 0), .int .i64 (ms.getD 3 0), .int .i64 kc.floors, .int .i64 kc.cars, .int .i64 kc.seats, .int .i64 kc.calls, .int .i64 kc.lines, .int .i64 kc.keys, .int .i64 kc.window, .int .i64 kc.burst, .int .i64 kc.rate, .int .i64 kc.idle, .int .i64 kc.inn, .int .i64 kc.out, .int .i64 kc.feed, .int .i64 kc.retries, .int .i64 kc.life, .int .i64 kc.door, .int .i64 kc.holds, .int .u32 kc.secret, .int .i64 kr, .slice none 0 0, .int .i64 now]
def snA (c : Cfg) (ix rm : Int) (lv dn : Value) (ms : List Int) (kc : Cfg) (kr now : Int) : Array Value := #[.int .i64 c.floors, .int .i64 c.cars, .int .i64 c.seats, .int .i64 c.calls, .int .i64 c.lines, .int .i64 c.keys, .int .i64 c.window, .int .i64 c.burst, .int .i64 c.rate, .int .i64 c.idle, .int .i64 c.inn, .int .i64 c.out, .int .i64 c.feed, .int .i64 c.retries, .int .i64 c.life, .int .i64 c.door, .int .i64 c.holds, .int .u32 c.secret, .int .i64 ix, .int .i64 rm, lv, dn, .int .i64 (ms.getD 0 0), .int .i64 (ms.getD 1 0), .int .i64 (ms.getD 2 0), .int .i64 (ms.getD 3 0), .int .i64 kc.floors, .int .i64 kc.cars, .int .i64 kc.seats, .int .i64 kc.calls, .int .i64 kc.lines, .int .i64 kc.keys, .int .i64 kc.window, .int .i64 kc.burst, .int .i64 kc.rate, .int .i64 kc.idle, .int .i64 kc.inn, .int .i64 kc.out, .int .i64 kc.feed, .int .i64 kc.retries, .int .i64 kc.life, .int .i64 kc.door, .int .i64 kc.holds, .int .u32 kc.secret, .int .i64 kr, .slice none 0 0, .int .i64 now]
def vtL (c : Cfg) (ix rm : Int) (lv dn : Value) (ms : List Int) (kc : Cfg) (kr now : Int) (gl : Value) (tr stl : Int) : List Value := [.int .i64 c.floors, .int .i64 c.cars, .int .i64 c.seats, .int .i64 c.calls, .int .i64 c.lines, .int .i64 c.keys, .int .i64 c.window, .int .i64 c.burst, .int .i64 c.rate, .int .i64 c.idle, .int .i64 c.inn, .int .i64 c.out, .int .i64 c.feed, .int .i64 c.retries, .int .i64 c.life, .int .i64 c.door, .int .i64 c.holds, .int .u32 c.secret, .int .i64 ix, .int .i64 rm, lv, dn, .int .i64 (ms.getD 0 0), .int .i64 (ms.getD 1 0), .int .i64 (ms.getD 2 0), .int .i64 (ms.getD 3 0), .int .i64 kc.floors, .int .i64 kc.cars, .int .i64 kc.seats, .int .i64 kc.calls, .int .i64 kc.lines, .int .i64 kc.keys, .int .i64 kc.window, .int .i64 kc.burst, .int .i64 kc.rate, .int .i64 kc.idle, .int .i64 kc.inn, .int .i64 kc.out, .int .i64 kc.feed, .int .i64 kc.retries, .int .i64 kc.life, .int .i64 kc.door, .int .i64 kc.holds, .int .u32 kc.secret, .int .i64 kr, .slice none 0 0, .int .i64 now, gl, .int .i64 tr, .int .i64 stl]
def vtA (c : Cfg) (ix rm : Int) (lv dn : Value) (ms : List Int) (kc : Cfg) (kr now : Int) (gl : Value) (tr stl : Int) : Array Value := #[.int .i64 c.floors, .int .i64 c.cars, .int .i64 c.seats, .int .i64 c.calls, .int .i64 c.lines, .int .i64 c.keys, .int .i64 c.window, .int .i64 c.burst, .int .i64 c.rate, .int .i64 c.idle, .int .i64 c.inn, .int .i64 c.out, .int .i64 c.feed, .int .i64 c.retries, .int .i64 c.life, .int .i64 c.door, .int .i64 c.holds, .int .u32 c.secret, .int .i64 ix, .int .i64 rm, lv, dn, .int .i64 (ms.getD 0 0), .int .i64 (ms.getD 1 0), .int .i64 (ms.getD 2 0), .int .i64 (ms.getD 3 0), .int .i64 kc.floors, .int .i64 kc.cars, .int .i64 kc.seats, .int .i64 kc.calls, .int .i64 kc.lines, .int .i64 kc.keys, .int .i64 kc.window, .int .i64 kc.burst, .int .i64 kc.rate, .int .i64 kc.idle, .int .i64 kc.inn, .int .i64 kc.out, .int .i64 kc.feed, .int .i64 kc.retries, .int .i64 kc.life, .int .i64 kc.door, .int .i64 kc.holds, .int .u32 kc.secret, .int .i64 kr, .slice none 0 0, .int .i64 now, gl, .int .i64 tr, .int .i64 stl]
theorem tyvault_Vault : TyI Try.prog 115 50 true [.int .i64 0, .int .i64 0, .int .i64 0, .int .i64 0, .int .i64 0, .int .i64 0, .int .i64 0, .int .i64 0, .int .i64 0, .int .i64 0, .int .i64 0, .int .i64 0, .int .i64 0, .int .i64 0, .int .i64 0, .int .i64 0, .int .i64 0, .int .u32 0, .int .i64 0, .int .i64 0, .slice none 0 0, .slice none 0 0, .int .i64 0, .int .i64 0, .int .i64 0, .int .i64 0, .int .i64 0, .int .i64 0, .int .i64 0, .int .i64 0, .int .i64 0, .int .i64 0, .int .i64 0, .int .i64 0, .int .i64 0, .int .i64 0, .int .i64 0, .int .i64 0, .int .i64 0, .int .i64 0, .int .i64 0, .int .i64 0, .int .i64 0, .int .u32 0, .int .i64 0, .slice none 0 0, .int .i64 0, .slice none 0 0, .int .i64 0, .int .i64 0] := ⟨by kernel_rfl, by kernel_rfl, by kernel_rfl⟩
theorem tyvault_Snap : TyI Try.prog 84 47 true [.int .i64 0, .int .i64 0, .int .i64 0, .int .i64 0, .int .i64 0, .int .i64 0, .int .i64 0, .int .i64 0, .int .i64 0, .int .i64 0, .int .i64 0, .int .i64 0, .int .i64 0, .int .i64 0, .int .i64 0, .int .i64 0, .int .i64 0, .int .u32 0, .int .i64 0, .int .i64 0, .slice none 0 0, .slice none 0 0, .int .i64 0, .int .i64 0, .int .i64 0, .int .i64 0, .int .i64 0, .int .i64 0, .int .i64 0, .int .i64 0, .int .i64 0, .int .i64 0, .int .i64 0, .int .i64 0, .int .i64 0, .int .i64 0, .int .i64 0, .int .i64 0, .int .i64 0, .int .i64 0, .int .i64 0, .int .i64 0, .int .i64 0, .int .u32 0, .int .i64 0, .slice none 0 0, .int .i64 0] := ⟨by kernel_rfl, by kernel_rfl, by kernel_rfl⟩
theorem tykeys_Keys : TyI Try.prog 82 20 true [.int .i64 0, .int .i64 0, .int .i64 0, .int .i64 0, .int .i64 0, .int .i64 0, .int .i64 0, .int .i64 0, .int .i64 0, .int .i64 0, .int .i64 0, .int .i64 0, .int .i64 0, .int .i64 0, .int .i64 0, .int .i64 0, .int .i64 0, .int .u32 0, .int .i64 0, .slice none 0 0] := ⟨by kernel_rfl, by kernel_rfl, by kernel_rfl⟩
theorem tyS_api_Change : TyI Try.prog 35 1 false [.slice none 0 0] := ⟨by kernel_rfl, by kernel_rfl, by kernel_rfl⟩
theorem tyhoistwaylaw11_Act : TyI Try.prog 87 11 true [.int .i64 0, .int .i64 0, .int .i64 0, .int .i64 0, .int .i64 0, .int .i64 0, .int .i64 0, .int .i64 0, .int .i64 0, .int .i64 0, .int .i64 0] := ⟨by kernel_rfl, by kernel_rfl, by kernel_rfl⟩
theorem tyshelf_Shelf_string__keys_entry_ : TyI Try.prog 80 2 true [.int .i64 0, .slice none 0 0] := ⟨by kernel_rfl, by kernel_rfl, by kernel_rfl⟩

theorem elChg : ElI Try.prog 35 40 11 88 := ElI.of (by kernel_rfl) (by kernel_rfl) (by decide)
set_option maxRecDepth 20000 in
set_option maxHeartbeats 16000000 in
theorem cloneCh (a : Option Addr) (c : Nat) (rows : List (List Value)) (w : World) (h : (rS a c 11 rows).holds w) (hb : rows.length ≤ 1000000) :
    Calls Try.prog 63 #[.slice a rows.length c] w fun e w' => ∃ a' c', e = .returned (.slice a' rows.length c') ∧ (rA a' c' 40 11 rows).holds w' ∧ (∀ q ∈ footA a', w.heap.size ≤ q) ∧ Off [] w w' := by
  have H0 := Lib.hid (Hp.start [] w)
  have H := hp_old H0 h (by decide)
  clear H0
  cases a with
  | none =>
    obtain rfl : rows = [] := by
      rcases h.1 with ⟨_, h0⟩ | ⟨x, c', he, _⟩
      · exact h0
      · cases he
    go_enter Try.func63, Try.ntmps63
    go_wp2_with (simp only [Lib.run_eql_slice_nil _ _ _ _ _ _ _ _ Try.underlying35, Result.andThen_ok, Option.isNone_none, Option.isNone_some])
    go_ret
    exact ⟨none, 0, rfl, ⟨World.ownsRow_nil _ _ _ _, Wf.nil _⟩, by simp [footA], H.out.off⟩
  | some x =>
    go_enter Try.func63, Try.ntmps63
    go_wp2_with (first
      | (simp only [Lib.run_eql_slice_nil _ _ _ _ _ _ _ _ Try.underlying35, Result.andThen_ok, Option.isNone_none, Option.isNone_some])
      | ((with_reducible apply hp_bslice0 elChg H); (focus (exact rfl)); (focus (exact rfl)); intro w5 b5 H5; clear H; have H := H5; clear H5)
      | (at_builtin; refine hp_append elChg H rfl rfl 0 rfl rfl rfl rfl rfl (hp_held H (a := some x) (c := c) (rows := rows) (by simp)) (by simp; omega) (by decide) ?_; intro w6 a6 c6 H6; clear H; have H := H6; clear H6))
    go_ret
    obtain ⟨h1, h2, h3⟩ := hp_giveA H (List.mem_cons_self ..)
    exact ⟨a6, c6, rfl, h1, h2, h3⟩

def chgRow (z : ChgV) : List Value := [.int .i64 z.index, .int .i64 z.call.id, .int .i64 z.call.kind, .int .i64 z.call.src, .int .i64 z.call.dst, .int .i64 z.call.car, .int .i64 z.call.state, .int .i64 z.call.owner, .int .i64 z.call.born, .int .i64 z.car, .int .i64 z.mode]
theorem cloneLog (a : Option Addr) (c : Nat) (xs : List ChgV) (w : World) (h : (rS a c 11 (xs.map chgRow)).holds w) (hb : xs.length ≤ 1000000) :
    Calls Try.prog 63 #[.slice a xs.length c] w fun e w' => ∃ a' c', e = .returned (.slice a' xs.length c') ∧ (rA a' c' 40 11 (xs.map chgRow)).holds w' ∧ (∀ q ∈ footA a', w.heap.size ≤ q) ∧ Off [] w w' := by
  have := cloneCh a c (xs.map chgRow) w h (by simpa using hb)
  rwa [List.length_map] at this
/-- where the changes behind an index begin -/
def atN (xs : List ChgV) (n : Int) : Nat := xs.findIdx fun x => decide (n < x.index)
theorem at_le (xs : List ChgV) (n : Int) : atN xs n ≤ xs.length := List.findIdx_le_length
theorem at_stop {xs : List ChgV} {i : Nat} {x : ChgV} {n : Int} (h : ∀ k, k < i → ∀ y, xs[k]? = some y → decide (n < y.index) = false) (hx : xs[i]? = some x) (he : decide (n < x.index) = true) : atN xs n = i := by
  obtain ⟨hi, rfl⟩ := List.getElem?_eq_some_iff.1 hx
  unfold atN
  rw [List.findIdx_eq hi]
  exact ⟨he, fun j hj => h j hj _ (List.getElem?_eq_getElem (by omega))⟩
theorem at_end {xs : List ChgV} {n : Int} (h : ∀ k, k < xs.length → ∀ y, xs[k]? = some y → decide (n < y.index) = false) : atN xs n = xs.length := by
  unfold atN
  rw [List.findIdx_eq_length]
  intro x hx
  obtain ⟨k, hk, rfl⟩ := List.getElem_of_mem hx
  exact h k hk _ (List.getElem?_eq_getElem hk)
theorem at_next {xs : List ChgV} {i : Nat} {x : ChgV} {n : Int} (h : ∀ k, k < i → ∀ y, xs[k]? = some y → decide (n < y.index) = false) (hx : xs[i]? = some x) (he : decide (n < x.index) = false) : ∀ k, k < i + 1 → ∀ y, xs[k]? = some y → decide (n < y.index) = false := fun k hk y hy => by
  rcases Nat.lt_or_ge k i with h1 | h1
  · exact h k h1 y hy
  · obtain rfl : k = i := by omega
    rw [hx] at hy
    cases hy
    exact he
def atI (xs : List ChgV) (n : Int) : Int := bif decide (atN xs n < xs.length) then (atN xs n : Int) else -1
theorem at_is (xs : List ChgV) (n : Int) : (atN xs n : Int) = bif decide (atI xs n < 0) then (xs.length : Int) else atI xs n := by
  have h := at_le xs n
  unfold atI
  cases e : decide (atN xs n < xs.length) with
  | true =>
    show (atN xs n : Int) = bif decide ((atN xs n : Int) < 0) then (xs.length : Int) else (atN xs n : Int)
    rw [decide_eq_false (by omega)]
    rfl
  | false =>
    have := of_decide_eq_false e
    show (atN xs n : Int) = (xs.length : Int)
    omega
def tab_at1V : Wk.Tab := [(40, 0, 0)]
theorem p_at1V {ops : Array Oper} {rest : List Oper} {o : Oper} {w0 : World} {Q : Exit → Act → World → Prop} {S : List Nat} {R : List Res} {K K' : Wk.Env} {N : Nat} (h : Wk.stp tab_at1V N ops K o = some K') (n : Wk.Wk N S w0 K' R (wpList Try.prog ops Q rest)) : Wk.Wk N S w0 K R (wpList Try.prog ops Q (o :: rest)) := Wk.wP (T := tab_at1V) (by kernel_rfl) h n
set_option maxHeartbeats 16000000 in
set_option maxRecDepth 20000 in
theorem at1V (x : ChgV) (g : Nat) (n : Int) (w : World) (hg : Blk w g #[.int .i64 n] 3) : Calls Try.prog 82 #[.agg (chA x), .pointer (some ⟨g, 0, none⟩)] w fun e w' => e = .returned (.bool (decide (n < x.index))) ∧ Off [] w w' := by
 have H := Lib.hid (Hp.start [] w)
 have H := hp_oldK H (cs := [.int .i64 n]) hg
 clear hg
 refine wStart (args := [.agg (chA x), .pointer (some ⟨g, 0, none⟩)]) Try.func82 rfl rfl rfl H ?_
 clear H
 show Wk 8 _ _ [(0, .agg (chA x)), (1, .pointer (some ⟨g, 0, none⟩))] _ _
 refine wSeqK fun KK1 hK1 => ?_
 refine wReg ?_
 refine wBx rfl rfl rfl fun b2 => ?_
 refine p_at1V rfl ?_
 refine wN ?_
 refine tN (wKK hK1 ?_)
 refine wSeqK fun KK2 hK2 => ?_
 refine wReg ?_
 refine p_at1V rfl ?_
 refine wLd rfl tyint 0 rfl rfl ?_
 refine wKd rfl tyint 1 rfl rfl ?_
 iterate 2 refine p_at1V rfl ?_
 refine wN ?_
 refine tN (wKK hK2 ?_)
 refine wRet ?_
 exact wR1 rfl rfl (fun ww H => ⟨rfl, H.out.off⟩)
def tab_indexLog : Wk.Tab := []
theorem p_indexLog {ops : Array Oper} {rest : List Oper} {o : Oper} {w0 : World} {Q : Exit → Act → World → Prop} {S : List Nat} {R : List Res} {K K' : Wk.Env} {N : Nat} (h : Wk.stp tab_indexLog N ops K o = some K') (n : Wk.Wk N S w0 K' R (wpList Try.prog ops Q rest)) : Wk.Wk N S w0 K R (wpList Try.prog ops Q (o :: rest)) := Wk.wP (T := tab_indexLog) (by kernel_rfl) h n
set_option maxHeartbeats 16000000 in
set_option maxRecDepth 20000 in
theorem indexLog (a : Option Addr) (c : Nat) (xs : List ChgV) (g : Nat) (n : Int) (w : World) (h1 : (rS a c 11 (xs.map chgRow)).holds w) (hg : Blk w g #[.int .i64 n] 3) (hx : xs.length ≤ 1000000) : Calls Try.prog 81 #[.slice a xs.length c, .func (.func 82) #[] #[.pointer (some ⟨g, 0, none⟩)]] w fun e w' => e = .returned (.int .i64 (atI xs n)) ∧ Off [] w w' := by
 have H := Lib.hid (Hp.start [] w)
 have H := hp_oldK H (cs := [.int .i64 n]) hg
 have H := hp_old H h1 (by decide)
 clear h1 hg
 refine wStart (args := [.slice a xs.length c, .func (.func 82) #[] #[.pointer (some ⟨g, 0, none⟩)]]) Try.func81 rfl rfl rfl H ?_
 clear H
 show Wk 19 _ _ [(0, .slice a xs.length c), (1, .func (.func 82) #[] #[.pointer (some ⟨g, 0, none⟩)])] _ _
 refine wSeqK fun KK1 hK1 => ?_
 refine wReg ?_
 refine p_indexLog rfl ?_
 refine wN ?_
 refine tN (wKK hK1 ?_)
 refine wSeqK fun KK2 hK2 => ?_
 refine wSeqK fun KK3 hK3 => ?_
 refine wReg ?_
 refine p_indexLog rfl ?_
 refine wE (.int .i64 xs.length) rfl rfl rfl (fun aa ww hs _ => by have e6 := hs 6 _ rfl; have g6 := gt_of e6; simp only [execOp]; go_simp <;> first | rfl | omega) ?_
 refine p_indexLog rfl ?_
 refine wN ?_
 refine tN (wKK hK3 ?_)
 refine wBlk ?_
 refine wLoop (fun ab wv => ∃ i : Nat, (i ≤ xs.length) ∧ (Hid (∀ k, k < i → ∀ y, xs[k]? = some y → decide (n < y.index) = false)) ∧ ab.tmps.size = 19 ∧ ab.defers = [] ∧ Sat [(0, .slice a xs.length c), (1, .func (.func 82) #[] #[.pointer (some ⟨g, 0, none⟩)]), (7, .int .i64 xs.length), (8, .int .i64 i)] ab ∧ Hid (Hp [] w wv [rS a c 11 (xs.map chgRow), rK g 3 [.int .i64 n]])) (fun ab _ => xs.length - (intOf (ab.eval (.tmp 8))).toNat) (fun aa ww nn dd hs H => ⟨0, (Nat.zero_le _), (Lib.hid (fun k hk => absurd hk (by omega))), nn, dd, (sat_sub ⟨rfl, rfl, rfl, rfl, trivial⟩ hs), H⟩) ?_
 rintro a1 wv ⟨i, hi, hn, nn, dd, hs, H⟩
 have mu1_8 := hs 8 _ rfl
 refine wIn nn dd hs H ?_
 clear nn dd hs H
 refine wSeqK fun KK4 hK4 => ?_
 refine wReg ?_
 refine p_indexLog rfl ?_
 refine wB (c := decide (i < xs.length)) 9 rfl (by simp) ?_
 refine wN ?_
 refine tN (wKK hK4 ?_)
 refine wSeqK fun KK5 hK5 => ?_
 refine wCond (E := decide (i < xs.length)) rfl (fun z1 => ?_) (fun z1 => ?_)
 · skip
   have z1d : i < xs.length := of_decide_eq_true z1
   intro aa ww nn dd hs H
   obtain ⟨yx, rfl⟩ := some_of_row (hp_held H (show rS a c 11 (xs.map chgRow) ∈ _ by simp)) (i := i) (by simp; omega)
   obtain ⟨x, hx⟩ : ∃ x, xs[i]? = some x := ⟨xs[i], List.getElem?_eq_getElem (by omega)⟩
   have HRx := Lib.hid (show (xs.map chgRow)[i]? = some [.int .i64 x.index, .int .i64 x.call.id, .int .i64 x.call.kind, .int .i64 x.call.src, .int .i64 x.call.dst, .int .i64 x.call.car, .int .i64 x.call.state, .int .i64 x.call.owner, .int .i64 x.call.born, .int .i64 x.car, .int .i64 x.mode] by rw [List.getElem?_map, hx]; rfl)
   have HXx := Lib.hid hx
   clear hx
   refine wIn nn dd hs H ?_
   refine wSk ?_
   refine tN (wKK hK5 ?_)
   refine wSeqK fun KK6 hK6 => ?_
   refine wBlk ?_
   refine wSeqK fun KK7 hK7 => ?_
   refine wReg ?_
   iterate 2 refine p_indexLog rfl ?_
   refine wN ?_
   refine tN (wKK hK7 ?_)
   refine wSeqK fun KK8 hK8 => ?_
   refine wReg ?_
   iterate 3 refine p_indexLog rfl ?_
   refine wE (.pointer (some (yx.add (i * 11)))) rfl rfl rfl (fun aa ww hs _ => by have e12 := hs 12 _ rfl; have g12 := gt_of e12; have e13 := hs 13 _ rfl; have g13 := gt_of e13; simp only [execOp]; go_simp <;> first | rfl | omega) ?_
   refine wX 15 (.agg (chA x)) rfl (fun aa ww KK hs H _ hk => hpS_load tyapi_Change H (y := yx) rfl (hs _ _ rfl) (wnt_ok hs rfl) (by (repeat (first | exact List.Mem.head _ | apply List.Mem.tail))) HRx.out rfl hk) ?_
   refine wQ (l := [.agg (chA x), .pointer (some ⟨g, 0, none⟩)]) Try.func82 rfl (by kernel_rfl) (.bool (decide (n < x.index))) (fun wc H => at1V x g n wc (H.out.holds (rK g 3 [.int .i64 n]) (by (repeat (first | exact List.Mem.head _ | apply List.Mem.tail))))) rfl rfl rfl rfl ?_
   refine wN ?_
   refine tN (wKK hK8 ?_)
   refine wCond (E := decide (n < x.index)) rfl (fun z2 => ?_) (fun z2 => ?_)
   · skip
     have z2d : n < x.index := of_decide_eq_true z2
     refine wSeqK fun KK9 hK9 => ?_
     refine wReg ?_
     iterate 2 refine p_indexLog rfl ?_
     refine wN ?_
     refine tN (wKK hK9 ?_)
     refine wRet ?_
     refine bR (tR (tR (bR (tR ?_))))
     exact wR1 rfl rfl (fun ww H => ⟨by unfold atI; rw [at_stop hn.out HXx.out z2, decide_eq_true (by omega)]; rfl, H.out.off⟩)
   · skip
     have z2d : ¬ (n < x.index) := of_decide_eq_false z2
     refine wSk ?_
     refine bN (tN (wKK hK6 ?_))
     refine wReg ?_
     refine p_indexLog rfl ?_
     refine wI 18 rfl (IntWalk.i64_in _ (by omega)) ?_
     refine p_indexLog rfl ?_
     refine wN ?_
     refine tN ?_
     intro aa ww nn dd hs H
     refine ⟨⟨i + 1, (by omega), (Lib.hid (at_next hn.out HXx.out z2)), nn, dd, (sat_sub ⟨rfl, rfl, rfl, rfl, trivial⟩ hs), (Lib.hid (H.out.sub (by repeat (first | exact List.Sublist.refl _ | apply List.Sublist.cons₂ | apply List.Sublist.cons))))⟩, ?_⟩
     have m8 := hs 8 _ rfl
     simp only [mu1_8, m8, intOf]
     omega
 · skip
   have z1d : ¬ (i < xs.length) := of_decide_eq_false z1
   refine wEx ?_
   refine tX (tX (bX (tN (wKK hK2 ?_))))
   refine wSeqK fun KK10 hK10 => ?_
   refine wReg ?_
   refine p_indexLog rfl ?_
   refine wN ?_
   refine tN (wKK hK10 ?_)
   refine wRet ?_
   exact wR1 rfl rfl (fun ww H => ⟨by unfold atI; rw [at_end (fun k hk => hn.out k (by omega)), decide_eq_false (by omega)]; rfl, H.out.off⟩)
def tab_newSe : Wk.Tab := []
theorem p_newSe {ops : Array Oper} {rest : List Oper} {o : Oper} {w0 : World} {Q : Exit → Act → World → Prop} {S : List Nat} {R : List Res} {K K' : Wk.Env} {N : Nat} (h : Wk.stp tab_newSe N ops K o = some K') (n : Wk.Wk N S w0 K' R (wpList Try.prog ops Q rest)) : Wk.Wk N S w0 K R (wpList Try.prog ops Q (o :: rest)) := Wk.wP (T := tab_newSe) (by kernel_rfl) h n
set_option maxHeartbeats 16000000 in
set_option maxRecDepth 20000 in
theorem newSe (room : Int) (w : World) (hr : 1 ≤ room ∧ room ≤ 65536) : Calls Try.prog 80 #[.int .i64 room] w fun e w' => e = .returned (.agg #[.int .i64 room, .slice none 0 0]) ∧ Off [] w w' := by
 have H := Lib.hid (Hp.start [] w)
 have hd1 : decide (room < 1) = false := decide_eq_false (by omega)
 have hd2 : decide (65536 < room) = false := decide_eq_false (by omega)
 refine wStart (args := [.int .i64 room]) Try.func80 rfl rfl rfl H ?_
 clear H
 show Wk 12 _ _ [(0, .int .i64 room)] _ _
 refine wSeqK fun KK1 hK1 => ?_
 refine wReg ?_
 refine wAl rfl rfl tyshelf_Shelf_string__keys_entry_ fun b2 => ?_
 refine wN ?_
 refine tN (wKK hK1 ?_)
 refine wSeqK fun KK2 hK2 => ?_
 refine wSeqK fun KK3 hK3 => ?_
 refine wReg ?_
 iterate 2 refine p_newSe rfl ?_
 refine wB 4 rfl hd1 ?_
 iterate 3 refine p_newSe rfl ?_
 refine wB 7 rfl hd2 ?_
 refine p_newSe rfl ?_
 refine wN ?_
 refine tN (wKK hK3 ?_)
 refine wCf rfl ?_
 refine wSk ?_
 refine tN (wKK hK2 ?_)
 refine wSeqK fun KK4 hK4 => ?_
 refine wReg ?_
 refine p_newSe rfl ?_
 refine wE (.agg #[.int .i64 room, .slice none 0 0]) rfl rfl rfl (fun aa ww hs _ => by have e10 := hs 10 _ rfl; have g10 := gt_of e10; simp only [execOp]; go_simp <;> first | rfl | omega) ?_
 refine wSr rfl tyshelf_Shelf_string__keys_entry_ 0 rfl rfl rfl rfl [.int .i64 room, .slice none 0 0] (by first | rfl | (simp only [spl]; rfl)) ?_
 refine wN ?_
 refine tN (wKK hK4 ?_)
 refine wRet ?_
 exact wRc tyshelf_Shelf_string__keys_entry_ rfl rfl 0 rfl rfl (fun ww H => ⟨rfl, H.out.off⟩)
theorem keys_in {c : Cfg} (h : (checkV c != 0) = false) : 1 ≤ c.keys ∧ c.keys ≤ 65536 := by
  have h1 : cfgOk c = true := by
    cases e : cfgOk c with
    | true => rfl
    | false => rw [checkV_bad e] at h; cases h
  unfold cfgOk at h1
  simp only [Bool.and_eq_true, decide_eq_true_eq] at h1
  omega
def tab_makeV : Wk.Tab := []
theorem p_makeV {ops : Array Oper} {rest : List Oper} {o : Oper} {w0 : World} {Q : Exit → Act → World → Prop} {S : List Nat} {R : List Res} {K K' : Wk.Env} {N : Nat} (h : Wk.stp tab_makeV N ops K o = some K') (n : Wk.Wk N S w0 K' R (wpList Try.prog ops Q rest)) : Wk.Wk N S w0 K R (wpList Try.prog ops Q (o :: rest)) := Wk.wP (T := tab_makeV) (by kernel_rfl) h n
set_option maxRecDepth 20000 in
theorem makeV_r3 (c : Cfg) (b1 : Nat) (b2 : Nat) (hkr : 1 ≤ c.keys ∧ c.keys ≤ 65536) (q : (checkV c != 0) = false) {wa wb : World} (H : Hid (Hp [] wa wb [rB b2 82 (kyL zeroF 0), rB b1 24 (cL c)])) (ac0 : Act) (hz : ac0.tmps.size = 12) (so1 : ac0.eval (.tmp 1) = .pointer (some ⟨b1, 0, none⟩)) (so2 : ac0.eval (.tmp 2) = .pointer (some ⟨b2, 0, none⟩)) {QR : Exit → Act → World → Prop} (hfin : ∀ (ac1 : Act) (wz : World), ac1.tmps.size = 12 → ac1.defers = ac0.defers → (∀ t, ([7, 8, 9, 10, 11] : List Nat).contains t = false → ac1.eval (.tmp t) = ac0.eval (.tmp t)) →  Hid (Hp [] wa wz [rB b2 82 (kyL c c.keys), rB b1 24 (cL c)]) → QR .normal ac1 wz) : (regAt Try.f62 3).wp Try.prog QR ac0 wb := by
  refine wp_region_st mixedP ⟨[0, 0, 1, 2, 3, 4], by kernel_rfl⟩ [[], [], [1], [1, 2], [0, 1, 2, 3], [0, 1, 2, 3, 4]] (by kernel_rfl) (by kernel_rfl) 12 hz (by kernel_rfl) (fun (xx : Unit) jx => nth [.agg (cA c), .pointer (some ⟨b1, 5, none⟩), .int .i64 c.keys, .agg #[.int .i64 c.keys, .slice none 0 0], .agg (kyA c c.keys), undef] jx) (fun (LL : Nat → Bool) (xx : Unit) ww => Hp [] wa ww (bif LL 5 then [rB b2 82 (kyL c c.keys), rB b1 24 (cL c)] else [rB b2 82 (kyL zeroF 0), rB b1 24 (cL c)])) () H.out.drew ?_ (steps_al ?_) ?_ ?_
  · intro L1 L2 xx ww hL sg
    have lh5 := hL 5 (by decide)
    simp only [lh5] at sg
    exact sg
  · refine al_cons ?_ (al_cons ?_ (al_cons ?_ (al_cons ?_ (al_cons ?_ (al_cons ?_ (al_nil))))))
    · intro LL xx ac wc sg hst hwant QQ hgo
      have H := Lib.hid hst
      simp only [sg.des 5 rfl, cond_true, cond_false] at H
      refine hpA_load tyapi_Config H rfl ((sg.free 1 (by kernel_rfl)).trans so1) hwant (by (repeat (first | exact List.Mem.head _ | apply List.Mem.tail))) (by rfl) rfl ?_
      exact hgo _ () _ (fun _ _ => rfl) rfl hst
    · intro LL xx ac wc sg hst hwant QQ hgo
      have se1 : ac.eval (.tmp 1) = _ := ((sg.free 1 (by kernel_rfl)).trans so1)
      have sg1 := gt_of se1
      exact op_val hwant hgo hst _ (by simp only [execOp, nth]; go_simp <;> omega) rfl
    · intro LL xx ac wc sg hst hwant QQ hgo
      have H := Lib.hid hst
      simp only [sg.des 5 rfl, cond_true, cond_false] at H
      refine hpA_load1 tyint H rfl (sg.slot 1 (sg.anc 1 rfl)) hwant (by (repeat (first | exact List.Mem.head _ | apply List.Mem.tail))) (by rfl) ?_
      exact hgo _ () _ (fun _ _ => rfl) rfl hst
    · intro LL xx ac wc sg hst hwant QQ hgo
      have se9 : ac.eval (.tmp 9) = _ := (sg.slot 2 (sg.anc 2 rfl))
      have sg9 := gt_of se9
      (try simp only [nth] at se9 sg9)
      refine op_call hwant hgo 80 #[.int .i64 c.keys] (by simp only [execOp]; go_simp) (newSe c.keys wc hkr) ?_
      rintro er wd ⟨rfl, hof⟩
      exact ⟨_, (), rfl, fun _ _ => rfl, rfl, Hp.quiet hst hof⟩
    · intro LL xx ac wc sg hst hwant QQ hgo
      have se7 : ac.eval (.tmp 7) = _ := (sg.slot 0 (sg.anc 0 rfl))
      have sg7 := gt_of se7
      have se10 : ac.eval (.tmp 10) = _ := (sg.slot 3 (sg.anc 3 rfl))
      have sg10 := gt_of se10
      (try simp only [nth] at se7 sg7 se10 sg10)
      (try simp only [xA, xL, cA, cL, chA, chL, bkA, bkL, kyA, kyL, snA, snL, vtA, vtL] at se7 sg7 se10 sg10)
      exact op_val hwant hgo hst _ (by simp only [execOp, nth, xA, xL, cA, cL, chA, chL, bkA, bkL, kyA, kyL, snA, snL, vtA, vtL]; go_simp <;> omega) rfl
    · intro LL xx ac wc sg hst hwant QQ hgo
      have H := Lib.hid hst
      simp only [sg.self, cond_true, cond_false] at H
      refine hpA_store tykeys_Keys H rfl rfl ((sg.free 2 (by kernel_rfl)).trans so2) (sg.slot 4 (sg.anc 4 rfl)) rfl (by repeat (first | apply Put.head | apply Put.tail)) (by simp [xA, xL, cA, cL, chA, chL, bkA, bkL, kyA, kyL, snA, snL, vtA, vtL]) (by simp [xA, xL, cA, cL, chA, chL, bkA, bkL, kyA, kyL, snA, snL, vtA, vtL, Value.oneCell']) (by first | rfl | (simp only [spl]; rfl)) rfl ?_
      intro wd H2
      exact hgo _ () _ (fun _ _ => rfl) rfl (by simp only [(show upd LL 5 5 = true from rfl), cond_true, cond_false]; exact H2.out)
  · exact skips [] (by kernel_rfl) (fun _ h => by cases h)
  · intro xx ac1 wz hfr hsl hst
    exact hfin ac1 wz (hfr.size.trans hz) hfr.defers (fr_keep hfr [7, 8, 9, 10, 11] (by kernel_rfl)) (Lib.hid hst)
set_option maxHeartbeats 16000000 in
set_option maxRecDepth 20000 in
theorem makeV (c : Cfg) (w : World) (hkr : 1 ≤ c.keys ∧ c.keys ≤ 65536) (q : (checkV c != 0) = false) : Calls Try.prog 62 #[.agg (cA c)] w fun e w' => e = .returned (.agg (kyA c c.keys)) ∧ Off [] w w' := by
 have H := Lib.hid (Hp.start [] w)
 refine wStart (args := [.agg (cA c)]) Try.func62 rfl rfl rfl H ?_
 clear H
 show Wk 12 _ _ [(0, .agg (cA c))] _ _
 refine wSeqK fun KK1 hK1 => ?_
 refine wReg ?_
 refine wBx rfl rfl rfl fun b1 => ?_
 refine wAl rfl rfl tykeys_Keys fun b2 => ?_
 refine wN ?_
 refine tN (wKK hK1 ?_)
 refine wSeqK fun KK2 hK2 => ?_
 refine wSeqK fun KK3 hK3 => ?_
 refine wReg ?_
 refine wLr rfl tyapi_Config 1 rfl (cL c) rfl rfl ?_
 refine wQ (l := [.agg (cA c)]) Try.func41 rfl (by kernel_rfl) (.int .i64 (checkV c)) (fun wc H => check c wc) rfl rfl rfl rfl ?_
 refine p_makeV rfl ?_
 refine wB 5 rfl q ?_
 refine wN ?_
 refine tN (wKK hK3 ?_)
 refine wCf rfl ?_
 refine wSk ?_
 refine tN (wKK hK2 ?_)
 refine wSeqK fun KK4 hK4 => ?_
 intro aa ww nn dd hs H
 refine makeV_r3 c b1 b2 hkr q H aa nn (hs 1 _ rfl) (hs 2 _ rfl) ?_
 intro ab wv nn2 dd2 kp H2
 refine wIn nn2 (dd2.trans dd) (Sat.cons (Sat.cons (Sat.cons (Sat.cons (sat_nil ab) ((kp 5 rfl).trans (hs 5 _ rfl))) ((kp 2 rfl).trans (hs 2 _ rfl))) ((kp 1 rfl).trans (hs 1 _ rfl))) ((kp 0 rfl).trans (hs 0 _ rfl))) H2 ?_
 clear hs H kp H2 dd dd2 nn nn2
 refine tN (wKK hK4 ?_)
 refine wRet ?_
 exact wRc tykeys_Keys rfl rfl 0 rfl rfl (fun ww H => ⟨rfl, H.out.off⟩)
def tab_indexN : Wk.Tab := [(33, 1, 18)]
theorem p_indexN {ops : Array Oper} {rest : List Oper} {o : Oper} {w0 : World} {Q : Exit → Act → World → Prop} {S : List Nat} {R : List Res} {K K' : Wk.Env} {N : Nat} (h : Wk.stp tab_indexN N ops K o = some K') (n : Wk.Wk N S w0 K' R (wpList Try.prog ops Q rest)) : Wk.Wk N S w0 K R (wpList Try.prog ops Q (o :: rest)) := Wk.wP (T := tab_indexN) (by kernel_rfl) h n
set_option maxHeartbeats 16000000 in
set_option maxRecDepth 20000 in
theorem indexN (b : BookV) (la : Option Addr) (lc : Nat) (da : Option Addr) (dc : Nat) (w : World) : Calls Try.prog 11 #[.agg (bkA b.conf b.index b.room (.slice la b.live.length lc) (.slice da b.done.length dc) b.modes)] w fun e w' => e = .returned (.int .i64 b.index) ∧ Off [] w w' := by
 have H := Lib.hid (Hp.start [] w)
 refine wStart (args := [.agg (bkA b.conf b.index b.room (.slice la b.live.length lc) (.slice da b.done.length dc) b.modes)]) Try.func11 rfl rfl rfl H ?_
 clear H
 show Wk 5 _ _ [(0, .agg (bkA b.conf b.index b.room (.slice la b.live.length lc) (.slice da b.done.length dc) b.modes))] _ _
 refine wSeqK fun KK1 hK1 => ?_
 refine wReg ?_
 refine wBx rfl rfl rfl fun b1 => ?_
 refine p_indexN rfl ?_
 refine wN ?_
 refine tN (wKK hK1 ?_)
 refine wSeqK fun KK2 hK2 => ?_
 refine wReg ?_
 refine p_indexN rfl ?_
 refine wLd rfl tyint 0 rfl rfl ?_
 refine p_indexN rfl ?_
 refine wN ?_
 refine tN (wKK hK2 ?_)
 refine wRet ?_
 exact wR1 rfl rfl (fun ww H => ⟨rfl, H.out.off⟩)
def tab_newVno : Wk.Tab := []
theorem p_newVno {ops : Array Oper} {rest : List Oper} {o : Oper} {w0 : World} {Q : Exit → Act → World → Prop} {S : List Nat} {R : List Res} {K K' : Wk.Env} {N : Nat} (h : Wk.stp tab_newVno N ops K o = some K') (n : Wk.Wk N S w0 K' R (wpList Try.prog ops Q rest)) : Wk.Wk N S w0 K R (wpList Try.prog ops Q (o :: rest)) := Wk.wP (T := tab_newVno) (by kernel_rfl) h n
set_option maxHeartbeats 16000000 in
set_option maxRecDepth 20000 in
theorem newVno (c : Cfg) (w : World) (q : (checkV c != 0) = true) : Calls Try.prog 33 #[.agg (cA c)] w fun e w' => e = .returned (.pointer none) ∧ Off [] w w' := by
 have H := Lib.hid (Hp.start [] w)
 refine wStart (args := [.agg (cA c)]) Try.func33 rfl rfl rfl H ?_
 clear H
 show Wk 13 _ _ [(0, .agg (cA c))] _ _
 refine wSeqK fun KK1 hK1 => ?_
 refine wReg ?_
 refine wBx rfl rfl rfl fun b1 => ?_
 refine p_newVno rfl ?_
 refine wN ?_
 refine tN (wKK hK1 ?_)
 refine wSeqK fun KK2 hK2 => ?_
 refine wSeqK fun KK3 hK3 => ?_
 refine wReg ?_
 refine wLr rfl tyapi_Config 0 rfl (cL c) rfl rfl ?_
 refine wQ (l := [.agg (cA c)]) Try.func41 rfl (by kernel_rfl) (.int .i64 (checkV c)) (fun wc H => check c wc) rfl rfl rfl rfl ?_
 refine p_newVno rfl ?_
 refine wB 5 rfl q ?_
 refine wN ?_
 refine tN (wKK hK3 ?_)
 refine wCt rfl ?_
 refine wSeqK fun KK4 hK4 => ?_
 refine wReg ?_
 refine p_newVno rfl ?_
 refine wN ?_
 refine tN (wKK hK4 ?_)
 refine wRet ?_
 refine tR ?_
 exact wR1 rfl rfl (fun ww H => ⟨rfl, H.out.off⟩)
def tab_newVyes : Wk.Tab := []
theorem p_newVyes {ops : Array Oper} {rest : List Oper} {o : Oper} {w0 : World} {Q : Exit → Act → World → Prop} {S : List Nat} {R : List Res} {K K' : Wk.Env} {N : Nat} (h : Wk.stp tab_newVyes N ops K o = some K') (n : Wk.Wk N S w0 K' R (wpList Try.prog ops Q rest)) : Wk.Wk N S w0 K R (wpList Try.prog ops Q (o :: rest)) := Wk.wP (T := tab_newVyes) (by kernel_rfl) h n
set_option maxRecDepth 20000 in
theorem newVyes_r3 (c : Cfg) (b1 : Nat) (hkr : 1 ≤ c.keys ∧ c.keys ≤ 65536) (q : (checkV c != 0) = false) {wa wb : World} (H : Hid (Hp [] wa wb [rB b1 24 (cL c)])) (ac0 : Act) (hz : ac0.tmps.size = 13) (so1 : ac0.eval (.tmp 1) = .pointer (some ⟨b1, 0, none⟩)) {QR : Exit → Act → World → Prop} (hfin : ∀ (la3_1 : Option Addr) (lc3_1 : Nat) (da3_1 : Option Addr) (dc3_1 : Nat) (b12 : Nat) (ac1 : Act) (wz : World), ac1.tmps.size = 13 → ac1.defers = ac0.defers → (∀ t, ([2, 6, 7, 8, 9, 10, 11, 12] : List Nat).contains t = false → ac1.eval (.tmp t) = ac0.eval (.tmp t)) → ac1.eval (.tmp 2) = .pointer (some ⟨b12, 0, none⟩) →  Hid (Hp [] wa wz [rB b12 115 (vtL ((newB c).conf) ((newB c).index) ((newB c).room) (.slice la3_1 ((newB c).live.length) lc3_1) (.slice da3_1 ((newB c).done.length) dc3_1) ((newB c).modes) c c.keys 0 (.slice none 0 0) 0 0), rP (∀ q ∈ (rS da3_1 dc3_1 8 ((newB c).done.map callRow)).foot, wa.heap.size ≤ q), rP (∀ q ∈ (rS la3_1 lc3_1 9 ((newB c).live.map rowOf)).foot, wa.heap.size ≤ q), rS la3_1 lc3_1 9 ((newB c).live.map rowOf), rS da3_1 dc3_1 8 ((newB c).done.map callRow), rB b1 24 (cL c)]) → QR .normal ac1 wz) : (regAt Try.f33 3).wp Try.prog QR ac0 wb := by
  refine wp_region_st mixedP ⟨[0, 1, 0, 2, 3, 4, 5, 6], by kernel_rfl⟩ [[], [0], [], [0, 1, 2], [0, 1, 2, 3], [0, 1, 2, 3, 4], [0, 1, 2, 3, 4, 5], [0, 1, 2, 3, 4, 5, 6]] (by kernel_rfl) (by kernel_rfl) 13 hz (by kernel_rfl) (fun (xx : Option Addr × Nat × Option Addr × Nat × Nat) jx => match xx with | (la3_1, lc3_1, da3_1, dc3_1, b12) => nth [.agg (cA c), .agg (bkA ((newB c).conf) ((newB c).index) ((newB c).room) (.slice la3_1 ((newB c).live.length) lc3_1) (.slice da3_1 ((newB c).done.length) dc3_1) ((newB c).modes)), .agg (cA c), .agg (kyA c c.keys), .agg (snA ((newB c).conf) ((newB c).index) ((newB c).room) (.slice la3_1 ((newB c).live.length) lc3_1) (.slice da3_1 ((newB c).done.length) dc3_1) ((newB c).modes) c c.keys 0), .agg (vtA ((newB c).conf) ((newB c).index) ((newB c).room) (.slice la3_1 ((newB c).live.length) lc3_1) (.slice da3_1 ((newB c).done.length) dc3_1) ((newB c).modes) c c.keys 0 (.slice none 0 0) 0 0), .pointer (some ⟨b12, 0, none⟩), .pointer (some ⟨b12, 0, none⟩)] jx) (fun (LL : Nat → Bool) (xx : Option Addr × Nat × Option Addr × Nat × Nat) ww => match xx with | (la3_1, lc3_1, da3_1, dc3_1, b12) => Hp [] wa ww (bif LL 1 then (bif LL 6 then [rB b12 115 (vtL ((newB c).conf) ((newB c).index) ((newB c).room) (.slice la3_1 ((newB c).live.length) lc3_1) (.slice da3_1 ((newB c).done.length) dc3_1) ((newB c).modes) c c.keys 0 (.slice none 0 0) 0 0), rP (∀ q ∈ (rS da3_1 dc3_1 8 ((newB c).done.map callRow)).foot, wa.heap.size ≤ q), rP (∀ q ∈ (rS la3_1 lc3_1 9 ((newB c).live.map rowOf)).foot, wa.heap.size ≤ q), rS la3_1 lc3_1 9 ((newB c).live.map rowOf), rS da3_1 dc3_1 8 ((newB c).done.map callRow), rB b1 24 (cL c)] else [rP (∀ q ∈ (rS da3_1 dc3_1 8 ((newB c).done.map callRow)).foot, wa.heap.size ≤ q), rP (∀ q ∈ (rS la3_1 lc3_1 9 ((newB c).live.map rowOf)).foot, wa.heap.size ≤ q), rS la3_1 lc3_1 9 ((newB c).live.map rowOf), rS da3_1 dc3_1 8 ((newB c).done.map callRow), rB b1 24 (cL c)]) else [rB b1 24 (cL c)])) (default, default, default, default, default) H.out.drew ?_ (steps_al ?_) ?_ ?_
  · intro L1 L2 xx ww hL sg
    have lh1 := hL 1 (by decide)
    have lh6 := hL 6 (by decide)
    simp only [lh1, lh6] at sg
    exact sg
  · refine al_cons ?_ (al_cons ?_ (al_cons ?_ (al_cons ?_ (al_cons ?_ (al_cons ?_ (al_cons ?_ (al_cons ?_ (al_nil))))))))
    · intro LL xx ac wc sg hst hwant QQ hgo
      obtain ⟨la3_1, lc3_1, da3_1, dc3_1, b12⟩ := xx
      have H := Lib.hid hst
      simp only [sg.des 1 rfl, sg.des 6 rfl, cond_true, cond_false] at H
      refine hpA_load tyapi_Config H rfl ((sg.free 1 (by kernel_rfl)).trans so1) hwant (by (repeat (first | exact List.Mem.head _ | apply List.Mem.tail))) (by rfl) rfl ?_
      exact hgo _ (la3_1, lc3_1, da3_1, dc3_1, b12) _ (fun _ _ => rfl) rfl hst
    · intro LL xx ac wc sg hst hwant QQ hgo
      obtain ⟨_, _, _, _, b12⟩ := xx
      have se6 : ac.eval (.tmp 6) = _ := (sg.slot 0 (sg.anc 0 rfl))
      have sg6 := gt_of se6
      (try simp only [nth] at se6 sg6)
      have H := Lib.hid hst
      simp only [sg.self, sg.des 6 rfl, cond_true, cond_false] at H
      refine op_call hwant hgo 10 #[.agg (cA c)] (by simp only [execOp]; go_simp) (newBC c wc) ?_
      rintro er wd ⟨la3_1, lc3_1, da3_1, dc3_1, rfl, hg⟩
      have H2 := hp_gotB H (Rs := []) hg.2.2.2.2 hg.1 hg.2.1 (by decide) (by decide) hg.2.2.1 hg.2.2.2.1 (fun _ h => by cases h)
      replace H2 := hp_fact H2 (p := ∀ q ∈ (rS la3_1 lc3_1 9 ((newB c).live.map rowOf)).foot, wa.heap.size ≤ q) (fun q hq => Nat.le_trans H.out.off.size (from_nil hg.2.2.1 q hq))
      replace H2 := hp_fact H2 (p := ∀ q ∈ (rS da3_1 dc3_1 8 ((newB c).done.map callRow)).foot, wa.heap.size ≤ q) (fun q hq => Nat.le_trans H.out.off.size (from_nil hg.2.2.2.1 q hq))
      exact ⟨_, (la3_1, lc3_1, da3_1, dc3_1, b12), rfl, (sg.agree (x' := (la3_1, lc3_1, da3_1, dc3_1, b12)) (n := 8) rfl (by (iterate 8 (refine ix_cons (by first | exact fun _ => rfl | exact no sg.self | exact no (sg.des _ rfl)) ?_)); exact ix_nil)), rfl, (by simp only [(show upd LL 1 1 = true from rfl), (show upd LL 1 6 = LL 6 from rfl), sg.des 6 rfl, cond_true, cond_false]; exact H2.out)⟩
    · intro LL xx ac wc sg hst hwant QQ hgo
      obtain ⟨la3_1, lc3_1, da3_1, dc3_1, b12⟩ := xx
      rcases Bool.eq_false_or_eq_true (LL 1) with lh1 | lh1
      · skip
        have H := Lib.hid hst
        simp only [lh1, sg.des 6 rfl, cond_true, cond_false] at H
        refine hpA_load tyapi_Config H rfl ((sg.free 1 (by kernel_rfl)).trans so1) hwant (by (repeat (first | exact List.Mem.head _ | apply List.Mem.tail))) (by rfl) rfl ?_
        exact hgo _ (la3_1, lc3_1, da3_1, dc3_1, b12) _ (fun _ _ => rfl) rfl hst
      · skip
        have H := Lib.hid hst
        simp only [lh1, sg.des 6 rfl, cond_true, cond_false] at H
        refine hpA_load tyapi_Config H rfl ((sg.free 1 (by kernel_rfl)).trans so1) hwant (by (repeat (first | exact List.Mem.head _ | apply List.Mem.tail))) (by rfl) rfl ?_
        exact hgo _ (la3_1, lc3_1, da3_1, dc3_1, b12) _ (fun _ _ => rfl) rfl hst
    · intro LL xx ac wc sg hst hwant QQ hgo
      obtain ⟨la3_1, lc3_1, da3_1, dc3_1, b12⟩ := xx
      have se8 : ac.eval (.tmp 8) = _ := (sg.slot 2 (sg.anc 2 rfl))
      have sg8 := gt_of se8
      (try simp only [nth] at se8 sg8)
      refine op_call hwant hgo 62 #[.agg (cA c)] (by simp only [execOp]; go_simp) (makeV c wc hkr q) ?_
      rintro er wd ⟨rfl, hof⟩
      exact ⟨_, (la3_1, lc3_1, da3_1, dc3_1, b12), rfl, fun _ _ => rfl, rfl, Hp.quiet hst hof⟩
    · intro LL xx ac wc sg hst hwant QQ hgo
      obtain ⟨la3_1, lc3_1, da3_1, dc3_1, b12⟩ := xx
      have se7 : ac.eval (.tmp 7) = _ := (sg.slot 1 (sg.anc 1 rfl))
      have sg7 := gt_of se7
      have se9 : ac.eval (.tmp 9) = _ := (sg.slot 3 (sg.anc 3 rfl))
      have sg9 := gt_of se9
      (try simp only [nth] at se7 sg7 se9 sg9)
      (try simp only [xA, xL, cA, cL, chA, chL, bkA, bkL, kyA, kyL, snA, snL, vtA, vtL] at se7 sg7 se9 sg9)
      exact op_val hwant hgo hst _ (by simp only [execOp, nth, xA, xL, cA, cL, chA, chL, bkA, bkL, kyA, kyL, snA, snL, vtA, vtL]; go_simp <;> omega) rfl
    · intro LL xx ac wc sg hst hwant QQ hgo
      obtain ⟨la3_1, lc3_1, da3_1, dc3_1, b12⟩ := xx
      have se10 : ac.eval (.tmp 10) = _ := (sg.slot 4 (sg.anc 4 rfl))
      have sg10 := gt_of se10
      (try simp only [nth] at se10 sg10)
      (try simp only [xA, xL, cA, cL, chA, chL, bkA, bkL, kyA, kyL, snA, snL, vtA, vtL] at se10 sg10)
      exact op_val hwant hgo hst _ (by simp only [execOp, nth, xA, xL, cA, cL, chA, chL, bkA, bkL, kyA, kyL, snA, snL, vtA, vtL]; go_simp <;> omega) rfl
    · intro LL xx ac wc sg hst hwant QQ hgo
      obtain ⟨la3_1, lc3_1, da3_1, dc3_1, _⟩ := xx
      have H := Lib.hid hst
      simp only [sg.anc 1 rfl, sg.self, cond_true, cond_false] at H
      refine hp_box rfl 115 _ rfl _ (sg.slot 5 (sg.anc 5 rfl)) _ (by rfl) H ?_
      intro wd b12 H2
      exact hgo _ (la3_1, lc3_1, da3_1, dc3_1, b12) _ (sg.agree (x' := (la3_1, lc3_1, da3_1, dc3_1, b12)) (n := 8) rfl (by (iterate 8 (refine ix_cons (by first | exact fun _ => rfl | exact no sg.self | exact no (sg.des _ rfl)) ?_)); exact ix_nil)) rfl (by simp only [(show upd LL 6 1 = LL 1 from rfl), sg.anc 1 rfl, (show upd LL 6 6 = true from rfl), cond_true, cond_false]; exact H2.out)
    · intro LL xx ac wc sg hst hwant QQ hgo
      obtain ⟨la3_1, lc3_1, da3_1, dc3_1, b12⟩ := xx
      exact op_val hwant hgo hst _ (exec_assign rfl (sg.slot 6 (sg.anc 6 rfl))) rfl
  · exact skips [] (by kernel_rfl) (fun _ h => by cases h)
  · intro xx ac1 wz hfr hsl hst
    obtain ⟨la3_1, lc3_1, da3_1, dc3_1, b12⟩ := xx
    exact hfin la3_1 lc3_1 da3_1 dc3_1 b12 ac1 wz (hfr.size.trans hz) hfr.defers (fr_keep hfr [2, 6, 7, 8, 9, 10, 11, 12] (by kernel_rfl)) (hsl 7 (by decide)) (Lib.hid hst)
set_option maxHeartbeats 16000000 in
set_option maxRecDepth 20000 in
theorem newVyes (c : Cfg) (w : World) (hkr : 1 ≤ c.keys ∧ c.keys ≤ 65536) (q : (checkV c != 0) = false) : Calls Try.prog 33 #[.agg (cA c)] w fun e w' => ∃ v la' lc' da' dc', e = .returned (.pointer (some ⟨v, 0, none⟩)) ∧ Hid (Hp [] w w' [rB v 115 (vtL ((newB c).conf) ((newB c).index) ((newB c).room) (.slice la' ((newB c).live.length) lc') (.slice da' ((newB c).done.length) dc') ((newB c).modes) c c.keys 0 (.slice none 0 0) 0 0), rS la' lc' 9 ((newB c).live.map rowOf), rS da' dc' 8 ((newB c).done.map callRow)]) ∧ (∀ q ∈ (rS la' lc' 9 ((newB c).live.map rowOf)).foot, w.heap.size ≤ q) ∧ (∀ q ∈ (rS da' dc' 8 ((newB c).done.map callRow)).foot, w.heap.size ≤ q) := by
 have H := Lib.hid (Hp.start [] w)
 refine wStart (args := [.agg (cA c)]) Try.func33 rfl rfl rfl H ?_
 clear H
 show Wk 13 _ _ [(0, .agg (cA c))] _ _
 refine wSeqK fun KK1 hK1 => ?_
 refine wReg ?_
 refine wBx rfl rfl rfl fun b1 => ?_
 refine p_newVyes rfl ?_
 refine wN ?_
 refine tN (wKK hK1 ?_)
 refine wSeqK fun KK2 hK2 => ?_
 refine wSeqK fun KK3 hK3 => ?_
 refine wReg ?_
 refine wLr rfl tyapi_Config 0 rfl (cL c) rfl rfl ?_
 refine wQ (l := [.agg (cA c)]) Try.func41 rfl (by kernel_rfl) (.int .i64 (checkV c)) (fun wc H => check c wc) rfl rfl rfl rfl ?_
 refine p_newVyes rfl ?_
 refine wB 5 rfl q ?_
 refine wN ?_
 refine tN (wKK hK3 ?_)
 refine wCf rfl ?_
 refine wSk ?_
 refine tN (wKK hK2 ?_)
 refine wSeqK fun KK4 hK4 => ?_
 intro aa ww nn dd hs H
 refine newVyes_r3 c b1 hkr q H aa nn (hs 1 _ rfl) ?_
 intro la3_1 lc3_1 da3_1 dc3_1 b12 ab wv nn2 dd2 kp o2 H2
 refine wIn nn2 (dd2.trans dd) (Sat.cons (Sat.cons (Sat.cons (Sat.cons (sat_nil ab) ((kp 5 rfl).trans (hs 5 _ rfl))) ((kp 1 rfl).trans (hs 1 _ rfl))) ((kp 0 rfl).trans (hs 0 _ rfl))) o2) H2 ?_
 clear hs H kp H2 dd dd2 nn nn2 o2
 refine tN (wKK hK4 ?_)
 refine wRet ?_
 exact wR1 rfl rfl (fun ww H => ⟨b12, la3_1, lc3_1, da3_1, dc3_1, rfl, hp_sel [0, 3, 4] H (by decide) rfl, H.out.at 2 rfl, H.out.at 1 rfl⟩)
end Go.Proofs.Ytnanihffljpdbaa.Bk
