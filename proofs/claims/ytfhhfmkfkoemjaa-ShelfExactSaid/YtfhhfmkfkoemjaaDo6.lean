/- Layer 6: deeds on a shelf. -/
import Derived.Test.YtfhhfmkfkoemjaaProg
import Derived.Below
import Derived.WalkKit
import Derived.KernelRfl
import Derived.RowKit3
import Derived.Deep.LoopGhost
import Derived.Deep.QuietTactic
import Derived.BigQuiet
import Derived.WideLaws
import Derived.Deep.DeepCutAuto
import Derived.Deep.CutBlock
import Derived.Lib.Hide
import Derived.Laws.BitsLemmas
import Derived.Laws.Bits64
import Derived.Laws.BitsAllLaws
import Derived.IntWalk
import Derived.Outline
import Derived.WalkSpells
import Derived.Test.YtfhhfmkfkoemjaaMem
import Derived.Test.YtfhhfmkfkoemjaaSiOut
import Derived.Test.YtfhhfmkfkoemjaaSiEql
namespace Go.Proofs.Ytfhhfmkfkoemjaa.Si6
set_option linter.unusedVariables false
set_option linter.unusedSimpArgs false
open Go.RowKit Go.Proofs.Ytfhhfmkfkoemjaa.Mem

theorem tyhoistwaylaw06_part : TyI Try.prog 56 1 true [.int .i64 0] := ⟨by kernel_rfl, by kernel_rfl, by kernel_rfl⟩
set_option maxRecDepth 20000
set_option maxHeartbeats 16000000
theorem tyhoistwaylaw06_Act : TyI Try.prog 67 3 true [.int .i64 0, .string ⟨#[]⟩, .int .i64 0] := ⟨by kernel_rfl, by kernel_rfl, by kernel_rfl⟩
structure ActV where
  kind : Int
  key : ByteArray
  val : Int
def actRow (x : ActV) : List Value := [.int .i64 x.kind, .string x.key, .int .i64 x.val]
def byV (v : Int) : Int := 2 + (IntKind.u64.wrap v).tmod 3
def keptV (by_ : Int) (p : PairV) : Bool := p.2.tmod by_ == 0
def stepV (room : Int) (x : ActV) (ps : List PairV) : List PairV :=
  if x.kind = 1 ∨ x.kind = 2 ∨ x.kind = 3 then (withV room x.key x.val ps).1
  else if x.kind = 4 then withoutV x.key ps
  else if x.kind = 5 then ps.filter (keptV (byV x.val))
  else ps
def doesV (room : Int) (acts : List ActV) (ps : List PairV) : List PairV := acts.foldl (fun ps x => stepV room x ps) ps
theorem sorted_step {ps : List PairV} (hs : Sorted ps) (room : Int) (x : ActV) : Sorted (stepV room x ps) := by
  unfold stepV
  split
  · exact sorted_with hs room _ _
  · split
    · exact sorted_without hs _
    · split
      · exact sorted_keep hs _
      · exact hs
theorem few_with (ps : List PairV) (room : Int) (k : KeyV) (v : Int) : (withV room k v ps).1.length ≤ ps.length + 1 := by
  unfold withV
  split
  · simp
  · split
    · simp
    · simp [insAt]; omega
theorem few_step (ps : List PairV) (room : Int) (x : ActV) : (stepV room x ps).length ≤ ps.length + 1 := by
  unfold stepV
  split
  · exact few_with _ _ _ _
  · split
    · unfold withoutV
      split
      · simp [delAt]; omega
      · omega
    · split
      · have := List.length_filter_le (keptV (byV x.val)) ps
        omega
      · omega
theorem sorted_does (room : Int) : ∀ (acts : List ActV) {ps : List PairV}, Sorted ps → Sorted (doesV room acts ps)
  | [], _, hs => hs
  | x :: acts, _, hs => sorted_does room acts (sorted_step hs room x)
theorem few_does (room : Int) : ∀ (acts : List ActV) (ps : List PairV), (doesV room acts ps).length ≤ ps.length + acts.length
  | [], _ => by simp [doesV]
  | x :: acts, ps => by
    have := few_does room acts (stepV room x ps)
    have := few_step ps room x
    show (doesV room acts (stepV room x ps)).length ≤ _
    simp only [List.length_cons]
    omega
theorem does_snoc (room : Int) (acts : List ActV) (x : ActV) (ps : List PairV) : doesV room (acts ++ [x]) ps = stepV room x (doesV room acts ps) := by simp [doesV]
theorem act_cons {acts : List ActV} {i : Nat} (hi : i < acts.length) : ∃ x, acts[i]? = some x ∧ acts.take (i + 1) = acts.take i ++ [x] := ⟨acts[i], List.getElem?_eq_getElem hi, List.take_succ_eq_append_getElem hi⟩
theorem act_at {acts : List ActV} {i : Nat} {x : ActV} (h : acts[i]? = some x) : (acts.map actRow)[i]? = some [.int .i64 x.kind, .string x.key, .int .i64 x.val] := by rw [List.getElem?_map, h]; rfl
theorem From.trans {w w' : World} {Rs : List Res} {r : Res} {f : List Nat} (h1 : From w Rs r.foot) (h2 : From w' [r] f) (hw : w.heap.size ≤ w'.heap.size) : From w Rs f := by
  intro q hq
  rcases h2 q hq with h | ⟨p, hp, hpo, hqp⟩
  · exact .inl (Nat.le_trans hw h)
  · obtain rfl : p = r := by simpa using hp
    exact h1 q hqp
theorem From.more {w : World} {f : List Nat} (h : From w [] f) (Rs : List Res) : From w Rs f := fun q hq => by
  rcases h q hq with h1 | ⟨r, hr, _⟩
  · exact .inl h1
  · cases hr
theorem by_wf (v : Int) : 2 ≤ byV v ∧ byV v ≤ 4 := by
  unfold byV
  rw [IntKind.wrap_u64]
  have h1 : 0 ≤ v % 18446744073709551616 := Int.emod_nonneg _ (by decide)
  rw [Int.tmod_eq_emod_of_nonneg h1]
  omega
theorem rest_is (v m : Int) (hm : 0 < m) (h2 : m < 1000000) : 0 ≤ (IntKind.u64.wrap v).tmod m ∧ (IntKind.u64.wrap v).tmod m < m := by
  rw [IntKind.wrap_u64]
  have h1 : 0 ≤ v % 18446744073709551616 := Int.emod_nonneg _ (by decide)
  rw [Int.tmod_eq_emod_of_nonneg h1]
  exact ⟨Int.emod_nonneg _ (by omega), Int.emod_lt_of_pos _ hm⟩
theorem by_is (v : Int) : wrap64 (2 + wrap64 ((IntKind.u64.wrap v).tmod 3)) = byV v := by
  have := rest_is v 3 (by decide) (by decide)
  unfold byV
  generalize (IntKind.u64.wrap v).tmod 3 = r at *
  unfold wrap64
  omega
theorem partIs (by_ : Int) (p : PairV) (hby : 2 ≤ by_ ∧ by_ ≤ 4) (w : World) : Calls Try.prog 33 #[.agg #[.int .i64 by_], .string p.1, .int .i64 p.2] w fun e w' => e = .returned (.bool (keptV by_ p)) ∧ Off [] w w' := by
  have H := Lib.hid (Hp.start [] w)
  have h0 : ¬ by_ = 0 := by omega
  have h1 : ¬ by_ = -1 := by omega
  go_enter Try.func33, Try.ntmps33
  go_wp2_with (first
    | ((with_reducible apply g_mem); (focus (exact rfl)); first
      | ((with_reducible apply hpN_box 56 3 H); (focus (exact rfl)); (focus (exact rfl)); (focus (exact rfl)); (focus (exact rfl)); (focus (exact rfl)); intro w5 b3 H5; clear H; have H := H5; clear H5)
      | ((with_reducible apply hpA_load1 tyint H); (focus (exact rfl)); (focus (exact rfl)); (focus (first | (exact rfl) | (simp [Region.wanted]; done) | (simp only [Region.wanted]; go_simp; done))); (focus (repeat (first | exact List.Mem.head _ | apply List.Mem.tail))); (focus ((try simp only [List.getElem?_cons_zero, List.getElem?_cons_succ]); exact rfl)))))
  go_ret
  exact ⟨rfl, H.out.off⟩
theorem partNot (by_ : Int) (p : PairV) (hby : 2 ≤ by_ ∧ by_ ≤ 4) (w : World) : Calls Try.prog 34 #[.agg #[.int .i64 by_], .string p.1, .int .i64 p.2] w fun e w' => e = .returned (.bool (!keptV by_ p)) ∧ Off [] w w' := by
  have H := Lib.hid (Hp.start [] w)
  have h0 : ¬ by_ = 0 := by omega
  have h1 : ¬ by_ = -1 := by omega
  go_enter Try.func34, Try.ntmps34
  go_wp2_with (first
    | ((with_reducible apply g_mem); (focus (exact rfl)); first
      | ((with_reducible apply hpN_box 56 3 H); (focus (exact rfl)); (focus (exact rfl)); (focus (exact rfl)); (focus (exact rfl)); (focus (exact rfl)); intro w5 b3 H5; clear H; have H := H5; clear H5)
      | ((with_reducible apply hpA_load tyhoistwaylaw06_part H); (focus (exact rfl)); (focus (exact rfl)); (focus (first | (exact rfl) | (simp [Region.wanted]; done) | (simp only [Region.wanted]; go_simp; done))); (focus (repeat (first | exact List.Mem.head _ | apply List.Mem.tail))); (focus ((try simp only [List.drop_zero, List.drop_succ_cons, List.take_succ_cons, List.take_zero]); exact rfl)); (focus (exact rfl))))
    | (go_at_call 33; (with_reducible refine (partIs _ p hby _).mono ?_); rintro e w5 ⟨rfl, ho⟩; have H5 := Lib.hid (H.out.quiet ho); clear H ho; have H := H5; clear H5))
  go_ret
  exact ⟨rfl, H.out.off⟩
theorem doesC (room : Int) (a b : Option Addr) (c d : Nat) (ps : List PairV) (acts : List ActV) (w : World) (h : (rS a c 2 (ps.map rowOf)).holds w) (h2 : (rS b d 3 (acts.map actRow)).holds w) (hs : Sorted ps) (hb : ps.length + acts.length ≤ 1000000) :
    Calls Try.prog 31 #[.agg #[.int .i64 room, .slice a ps.length c], .slice b acts.length d] w fun e w' => ∃ a' c', e = .returned (.agg #[.int .i64 room, .slice a' (doesV room acts ps).length c']) ∧ Gives w w' [rS a c 2 (ps.map rowOf)] a' c' (doesV room acts ps) := by
  have H0 := Lib.hid (Hp.start [] w)
  have H1 := hp_old H0 h (by decide)
  have H := hp_old H1 h2 (by decide)
  clear H0 H1
  have HN := Lib.hid (fun i (hi : i < acts.length) => some_of_row h2 (i := i) (by simpa using hi))
  have HS := Lib.hid hs
  clear h h2 hs
  generalize hn : acts.length = n at *
  go_enter Try.func31, Try.ntmps31
  go_wp2_with (first
    | ((with_reducible apply g_mem); (focus (exact rfl)); first
      | ((with_reducible apply hpN_box 43 2 H); (focus (exact rfl)); (focus (exact rfl)); (focus (exact rfl)); (focus (exact rfl)); (focus (exact rfl)); intro w5 b2 H5; clear H; have H := H5; clear H5)
      | ((with_reducible apply hpN_alloc tyshelf_Shelf_string__int_ 4 H); (focus (exact rfl)); (focus (exact rfl)); (focus (exact rfl)); intro w5 b4 H5; clear H; have H := H5; clear H5)
      | ((with_reducible apply hpA_load tyhoistwaylaw06_Act H); (focus (exact rfl)); (focus (exact rfl)); (focus (first | (exact rfl) | (simp [Region.wanted]; done) | (simp only [Region.wanted]; go_simp; done))); (focus (repeat (first | exact List.Mem.head _ | apply List.Mem.tail))); (focus ((try simp only [List.drop_zero, List.drop_succ_cons, List.take_succ_cons, List.take_zero]); exact rfl)); (focus (exact rfl)))
      | ((with_reducible apply hpN_alloc tyhoistwaylaw06_Act 6 H); (focus (exact rfl)); (focus (exact rfl)); (focus (exact rfl)); intro w5 b6 H5; clear H; have H := H5; clear H5)
      | ((with_reducible apply hpA_store tyhoistwaylaw06_Act H); (focus (exact rfl)); (focus (exact rfl)); (focus (exact rfl)); (focus (exact rfl)); (focus (exact rfl)); (focus (repeat (first | apply Put.head | apply Put.tail))); (focus (first | (simp; done) | (simp [Value.oneCell']; done))); (focus (first | (simp; done) | (simp [Value.oneCell']; done))); (focus ((try simp only [spl]); exact rfl)); (focus (exact rfl)); intro w5 H5; clear H; have H := H5; clear H5)
      | ((with_reducible apply hpA_load1 tyint H); (focus (exact rfl)); (focus (exact rfl)); (focus (first | (exact rfl) | (simp [Region.wanted]; done) | (simp only [Region.wanted]; go_simp; done))); (focus (repeat (first | exact List.Mem.head _ | apply List.Mem.tail))); (focus ((try simp only [List.getElem?_cons_zero, List.getElem?_cons_succ]); exact rfl)))
      | ((with_reducible apply hpA_load tyshelf_Shelf_string__int_ H); (focus (exact rfl)); (focus (exact rfl)); (focus (first | (exact rfl) | (simp [Region.wanted]; done) | (simp only [Region.wanted]; go_simp; done))); (focus (repeat (first | exact List.Mem.head _ | apply List.Mem.tail))); (focus ((try simp only [List.drop_zero, List.drop_succ_cons, List.take_succ_cons, List.take_zero]); exact rfl)); (focus (exact rfl)))
      | ((with_reducible apply hpA_load1 tystring H); (focus (exact rfl)); (focus (exact rfl)); (focus (first | (exact rfl) | (simp [Region.wanted]; done) | (simp only [Region.wanted]; go_simp; done))); (focus (repeat (first | exact List.Mem.head _ | apply List.Mem.tail))); (focus ((try simp only [List.getElem?_cons_zero, List.getElem?_cons_succ]); exact rfl)))
      | ((with_reducible apply hpA_store tyshelf_Shelf_string__int_ H); (focus (exact rfl)); (focus (exact rfl)); (focus (exact rfl)); (focus (exact rfl)); (focus (exact rfl)); (focus (repeat (first | apply Put.head | apply Put.tail))); (focus (first | (simp; done) | (simp [Value.oneCell']; done))); (focus (first | (simp; done) | (simp [Value.oneCell']; done))); (focus ((try simp only [spl]); exact rfl)); (focus (exact rfl)); intro w5 H5; clear H; have H := H5; clear H5)))
  go_loopw [5] (fun vi wr => ∃ (i : Nat) (ps1 : List PairV) (a1 : Option Addr) (c1 : Nat), i ≤ n ∧ vi = .int .i64 i ∧ Hid (ps1 = doesV room (acts.take i) ps) ∧ Hid (From w [rS a c 2 (ps.map rowOf)] (rS a1 c1 2 (ps1.map rowOf)).foot) ∧ Hid (Hp [] w wr [rS a1 c1 2 (ps1.map rowOf), rB b4 43 [.int .i64 0, .slice none 0 0], rB b2 43 [.int .i64 room, .slice a1 ps1.length c1], rS b d 3 (acts.map actRow), rS a c 2 (ps.map rowOf)])) (fun vi _ => n - (intOf vi).toNat)
  case atStart =>
    refine ⟨0, ps, a, c, by omega, rfl, Lib.hid rfl, Lib.hid (From.same rfl _ (List.mem_cons_self ..)), ?_⟩
    exact hp_got H (Off.refl [] _) (hp_held H (by simp)) (by decide) (From.same rfl [rS a c 2 (ps.map rowOf)] (List.mem_cons_self ..)) (by simp) |> fun H5 => Lib.hid (H5.out.sub (by simp))
  case round =>
    clear H
    obtain ⟨i, ps1, a1, c1, hi, rfl, hp1, hf1, H⟩ := hrel
    by_cases hlt : i < n
    · obtain ⟨y, rfl⟩ := HN.out i (by omega)
      obtain ⟨x, hx, hxt⟩ := act_cons (acts := acts) (i := i) (by omega)
      have HX := Lib.hid (act_at hx)
      have hs1 : Hid (Sorted ps1) := Lib.hid (by rw [hp1.out]; exact sorted_does room _ HS.out)
      have hb1 : ps1.length ≤ 1000000 := by
        have := few_does room (acts.take i) ps
        rw [← hp1.out, List.length_take] at this
        omega
      have HNX : Hid (∀ ps2, ps2 = stepV room x ps1 → ps2 = doesV room (acts.take (i + 1)) ps) := Lib.hid (fun ps2 e => by rw [e, hp1.out, hxt, does_snoc])
      clear hx hxt
      rcases Bool.eq_false_or_eq_true (x.kind == 1) with q1 | q1
      · have HQ := Lib.hid (show x.kind = 1 by simpa using q1)
        go_wp2_with (first
          | ((with_reducible apply g_mem); (focus (exact rfl)); first
      | ((with_reducible apply hpN_box 43 2 H); (focus (exact rfl)); (focus (exact rfl)); (focus (exact rfl)); (focus (exact rfl)); (focus (exact rfl)); intro w5 b2 H5; clear H; have H := H5; clear H5)
      | ((with_reducible apply hpN_alloc tyshelf_Shelf_string__int_ 4 H); (focus (exact rfl)); (focus (exact rfl)); (focus (exact rfl)); intro w5 b4 H5; clear H; have H := H5; clear H5)
      | ((with_reducible apply hpA_load tyhoistwaylaw06_Act H); (focus (exact rfl)); (focus (exact rfl)); (focus (first | (exact rfl) | (simp [Region.wanted]; done) | (simp only [Region.wanted]; go_simp; done))); (focus (repeat (first | exact List.Mem.head _ | apply List.Mem.tail))); (focus ((try simp only [List.drop_zero, List.drop_succ_cons, List.take_succ_cons, List.take_zero]); exact rfl)); (focus (exact rfl)))
      | ((with_reducible apply hpN_alloc tyhoistwaylaw06_Act 6 H); (focus (exact rfl)); (focus (exact rfl)); (focus (exact rfl)); intro w5 b6 H5; clear H; have H := H5; clear H5)
      | ((with_reducible apply hpA_store tyhoistwaylaw06_Act H); (focus (exact rfl)); (focus (exact rfl)); (focus (exact rfl)); (focus (exact rfl)); (focus (exact rfl)); (focus (repeat (first | apply Put.head | apply Put.tail))); (focus (first | (simp; done) | (simp [Value.oneCell']; done))); (focus (first | (simp; done) | (simp [Value.oneCell']; done))); (focus ((try simp only [spl]); exact rfl)); (focus (exact rfl)); intro w5 H5; clear H; have H := H5; clear H5)
      | ((with_reducible apply hpA_load1 tyint H); (focus (exact rfl)); (focus (exact rfl)); (focus (first | (exact rfl) | (simp [Region.wanted]; done) | (simp only [Region.wanted]; go_simp; done))); (focus (repeat (first | exact List.Mem.head _ | apply List.Mem.tail))); (focus ((try simp only [List.getElem?_cons_zero, List.getElem?_cons_succ]); exact rfl)))
      | ((with_reducible apply hpA_load tyshelf_Shelf_string__int_ H); (focus (exact rfl)); (focus (exact rfl)); (focus (first | (exact rfl) | (simp [Region.wanted]; done) | (simp only [Region.wanted]; go_simp; done))); (focus (repeat (first | exact List.Mem.head _ | apply List.Mem.tail))); (focus ((try simp only [List.drop_zero, List.drop_succ_cons, List.take_succ_cons, List.take_zero]); exact rfl)); (focus (exact rfl)))
      | ((with_reducible apply hpA_load1 tystring H); (focus (exact rfl)); (focus (exact rfl)); (focus (first | (exact rfl) | (simp [Region.wanted]; done) | (simp only [Region.wanted]; go_simp; done))); (focus (repeat (first | exact List.Mem.head _ | apply List.Mem.tail))); (focus ((try simp only [List.getElem?_cons_zero, List.getElem?_cons_succ]); exact rfl)))
      | ((with_reducible apply hpA_store tyshelf_Shelf_string__int_ H); (focus (exact rfl)); (focus (exact rfl)); (focus (exact rfl)); (focus (exact rfl)); (focus (exact rfl)); (focus (repeat (first | apply Put.head | apply Put.tail))); (focus (first | (simp; done) | (simp [Value.oneCell']; done))); (focus (first | (simp; done) | (simp [Value.oneCell']; done))); (focus ((try simp only [spl]); exact rfl)); (focus (exact rfl)); intro w5 H5; clear H; have H := H5; clear H5))
          | ((with_reducible apply g_mem); (focus (exact rfl)); (with_reducible apply hpS_load tyhoistwaylaw06_Act H); (focus (exact rfl)); (focus (exact rfl)); (focus (first | (exact rfl) | (simp [Region.wanted]; done) | (simp only [Region.wanted]; go_simp; done))); (focus (repeat (first | exact List.Mem.head _ | apply List.Mem.tail))); (focus (exact HX.out)); (focus (exact rfl)))
          | (go_at_call 27; (refine (withC room _ _ ps1 x.key x.val _ (hp_held H (by simp)) hs1.out hb1).mono ?_); rintro e w5 ⟨a6, c6, rfl, h5⟩; have hsz := H.out.off.size; have H5 := hp_got H h5.2.2 h5.1 (by decide) h5.2.1 (by simp); clear H; have H := H5; clear H5))
        go_roundw
        case rel =>
          exact ⟨i + 1, (withV room x.key x.val ps1).1, a6, c6, by omega, by go_num, Lib.hid (HNX.out _ (by simp [stepV, HQ.out])), Lib.hid (From.trans hf1.out h5.2.1 hsz), Lib.hid (H.out.sub (by simp))⟩
        case measure => simp [intOf]; omega
      · skip
        rcases Bool.eq_false_or_eq_true (x.kind == 2) with q2 | q2
        · have HQ := Lib.hid (show x.kind = 2 by simpa using q2)
          go_wp2_with (first
            | ((with_reducible apply g_mem); (focus (exact rfl)); first
      | ((with_reducible apply hpN_box 43 2 H); (focus (exact rfl)); (focus (exact rfl)); (focus (exact rfl)); (focus (exact rfl)); (focus (exact rfl)); intro w5 b2 H5; clear H; have H := H5; clear H5)
      | ((with_reducible apply hpN_alloc tyshelf_Shelf_string__int_ 4 H); (focus (exact rfl)); (focus (exact rfl)); (focus (exact rfl)); intro w5 b4 H5; clear H; have H := H5; clear H5)
      | ((with_reducible apply hpA_load tyhoistwaylaw06_Act H); (focus (exact rfl)); (focus (exact rfl)); (focus (first | (exact rfl) | (simp [Region.wanted]; done) | (simp only [Region.wanted]; go_simp; done))); (focus (repeat (first | exact List.Mem.head _ | apply List.Mem.tail))); (focus ((try simp only [List.drop_zero, List.drop_succ_cons, List.take_succ_cons, List.take_zero]); exact rfl)); (focus (exact rfl)))
      | ((with_reducible apply hpN_alloc tyhoistwaylaw06_Act 6 H); (focus (exact rfl)); (focus (exact rfl)); (focus (exact rfl)); intro w5 b6 H5; clear H; have H := H5; clear H5)
      | ((with_reducible apply hpA_store tyhoistwaylaw06_Act H); (focus (exact rfl)); (focus (exact rfl)); (focus (exact rfl)); (focus (exact rfl)); (focus (exact rfl)); (focus (repeat (first | apply Put.head | apply Put.tail))); (focus (first | (simp; done) | (simp [Value.oneCell']; done))); (focus (first | (simp; done) | (simp [Value.oneCell']; done))); (focus ((try simp only [spl]); exact rfl)); (focus (exact rfl)); intro w5 H5; clear H; have H := H5; clear H5)
      | ((with_reducible apply hpA_load1 tyint H); (focus (exact rfl)); (focus (exact rfl)); (focus (first | (exact rfl) | (simp [Region.wanted]; done) | (simp only [Region.wanted]; go_simp; done))); (focus (repeat (first | exact List.Mem.head _ | apply List.Mem.tail))); (focus ((try simp only [List.getElem?_cons_zero, List.getElem?_cons_succ]); exact rfl)))
      | ((with_reducible apply hpA_load tyshelf_Shelf_string__int_ H); (focus (exact rfl)); (focus (exact rfl)); (focus (first | (exact rfl) | (simp [Region.wanted]; done) | (simp only [Region.wanted]; go_simp; done))); (focus (repeat (first | exact List.Mem.head _ | apply List.Mem.tail))); (focus ((try simp only [List.drop_zero, List.drop_succ_cons, List.take_succ_cons, List.take_zero]); exact rfl)); (focus (exact rfl)))
      | ((with_reducible apply hpA_load1 tystring H); (focus (exact rfl)); (focus (exact rfl)); (focus (first | (exact rfl) | (simp [Region.wanted]; done) | (simp only [Region.wanted]; go_simp; done))); (focus (repeat (first | exact List.Mem.head _ | apply List.Mem.tail))); (focus ((try simp only [List.getElem?_cons_zero, List.getElem?_cons_succ]); exact rfl)))
      | ((with_reducible apply hpA_store tyshelf_Shelf_string__int_ H); (focus (exact rfl)); (focus (exact rfl)); (focus (exact rfl)); (focus (exact rfl)); (focus (exact rfl)); (focus (repeat (first | apply Put.head | apply Put.tail))); (focus (first | (simp; done) | (simp [Value.oneCell']; done))); (focus (first | (simp; done) | (simp [Value.oneCell']; done))); (focus ((try simp only [spl]); exact rfl)); (focus (exact rfl)); intro w5 H5; clear H; have H := H5; clear H5))
            | ((with_reducible apply g_mem); (focus (exact rfl)); (with_reducible apply hpS_load tyhoistwaylaw06_Act H); (focus (exact rfl)); (focus (exact rfl)); (focus (first | (exact rfl) | (simp [Region.wanted]; done) | (simp only [Region.wanted]; go_simp; done))); (focus (repeat (first | exact List.Mem.head _ | apply List.Mem.tail))); (focus (exact HX.out)); (focus (exact rfl)))
            | (go_at_call 27; (refine (withC room _ _ ps1 x.key x.val _ (hp_held H (by simp)) hs1.out hb1).mono ?_); rintro e w5 ⟨a6, c6, rfl, h5⟩; have hsz := H.out.off.size; have H5 := hp_got H h5.2.2 h5.1 (by decide) h5.2.1 (by simp); clear H; have H := H5; clear H5))
          go_roundw
          case rel =>
            exact ⟨i + 1, (withV room x.key x.val ps1).1, a6, c6, by omega, by go_num, Lib.hid (HNX.out _ (by simp [stepV, HQ.out])), Lib.hid (From.trans hf1.out h5.2.1 hsz), Lib.hid (H.out.sub (by simp))⟩
          case measure => simp [intOf]; omega
        · skip
          rcases Bool.eq_false_or_eq_true (x.kind == 3) with q3 | q3
          · have HQ := Lib.hid (show x.kind = 3 by simpa using q3)
            go_wp2_with (first
              | ((with_reducible apply g_mem); (focus (exact rfl)); first
      | ((with_reducible apply hpN_box 43 2 H); (focus (exact rfl)); (focus (exact rfl)); (focus (exact rfl)); (focus (exact rfl)); (focus (exact rfl)); intro w5 b2 H5; clear H; have H := H5; clear H5)
      | ((with_reducible apply hpN_alloc tyshelf_Shelf_string__int_ 4 H); (focus (exact rfl)); (focus (exact rfl)); (focus (exact rfl)); intro w5 b4 H5; clear H; have H := H5; clear H5)
      | ((with_reducible apply hpA_load tyhoistwaylaw06_Act H); (focus (exact rfl)); (focus (exact rfl)); (focus (first | (exact rfl) | (simp [Region.wanted]; done) | (simp only [Region.wanted]; go_simp; done))); (focus (repeat (first | exact List.Mem.head _ | apply List.Mem.tail))); (focus ((try simp only [List.drop_zero, List.drop_succ_cons, List.take_succ_cons, List.take_zero]); exact rfl)); (focus (exact rfl)))
      | ((with_reducible apply hpN_alloc tyhoistwaylaw06_Act 6 H); (focus (exact rfl)); (focus (exact rfl)); (focus (exact rfl)); intro w5 b6 H5; clear H; have H := H5; clear H5)
      | ((with_reducible apply hpA_store tyhoistwaylaw06_Act H); (focus (exact rfl)); (focus (exact rfl)); (focus (exact rfl)); (focus (exact rfl)); (focus (exact rfl)); (focus (repeat (first | apply Put.head | apply Put.tail))); (focus (first | (simp; done) | (simp [Value.oneCell']; done))); (focus (first | (simp; done) | (simp [Value.oneCell']; done))); (focus ((try simp only [spl]); exact rfl)); (focus (exact rfl)); intro w5 H5; clear H; have H := H5; clear H5)
      | ((with_reducible apply hpA_load1 tyint H); (focus (exact rfl)); (focus (exact rfl)); (focus (first | (exact rfl) | (simp [Region.wanted]; done) | (simp only [Region.wanted]; go_simp; done))); (focus (repeat (first | exact List.Mem.head _ | apply List.Mem.tail))); (focus ((try simp only [List.getElem?_cons_zero, List.getElem?_cons_succ]); exact rfl)))
      | ((with_reducible apply hpA_load tyshelf_Shelf_string__int_ H); (focus (exact rfl)); (focus (exact rfl)); (focus (first | (exact rfl) | (simp [Region.wanted]; done) | (simp only [Region.wanted]; go_simp; done))); (focus (repeat (first | exact List.Mem.head _ | apply List.Mem.tail))); (focus ((try simp only [List.drop_zero, List.drop_succ_cons, List.take_succ_cons, List.take_zero]); exact rfl)); (focus (exact rfl)))
      | ((with_reducible apply hpA_load1 tystring H); (focus (exact rfl)); (focus (exact rfl)); (focus (first | (exact rfl) | (simp [Region.wanted]; done) | (simp only [Region.wanted]; go_simp; done))); (focus (repeat (first | exact List.Mem.head _ | apply List.Mem.tail))); (focus ((try simp only [List.getElem?_cons_zero, List.getElem?_cons_succ]); exact rfl)))
      | ((with_reducible apply hpA_store tyshelf_Shelf_string__int_ H); (focus (exact rfl)); (focus (exact rfl)); (focus (exact rfl)); (focus (exact rfl)); (focus (exact rfl)); (focus (repeat (first | apply Put.head | apply Put.tail))); (focus (first | (simp; done) | (simp [Value.oneCell']; done))); (focus (first | (simp; done) | (simp [Value.oneCell']; done))); (focus ((try simp only [spl]); exact rfl)); (focus (exact rfl)); intro w5 H5; clear H; have H := H5; clear H5))
              | ((with_reducible apply g_mem); (focus (exact rfl)); (with_reducible apply hpS_load tyhoistwaylaw06_Act H); (focus (exact rfl)); (focus (exact rfl)); (focus (first | (exact rfl) | (simp [Region.wanted]; done) | (simp only [Region.wanted]; go_simp; done))); (focus (repeat (first | exact List.Mem.head _ | apply List.Mem.tail))); (focus (exact HX.out)); (focus (exact rfl)))
              | (go_at_call 27; (refine (withC room _ _ ps1 x.key x.val _ (hp_held H (by simp)) hs1.out hb1).mono ?_); rintro e w5 ⟨a6, c6, rfl, h5⟩; have hsz := H.out.off.size; have H5 := hp_got H h5.2.2 h5.1 (by decide) h5.2.1 (by simp); clear H; have H := H5; clear H5))
            go_roundw
            case rel =>
              exact ⟨i + 1, (withV room x.key x.val ps1).1, a6, c6, by omega, by go_num, Lib.hid (HNX.out _ (by simp [stepV, HQ.out])), Lib.hid (From.trans hf1.out h5.2.1 hsz), Lib.hid (H.out.sub (by simp))⟩
            case measure => simp [intOf]; omega
          · skip
            rcases Bool.eq_false_or_eq_true (x.kind == 4) with q4 | q4
            · have HQ := Lib.hid (show x.kind = 4 by simpa using q4)
              go_wp2_with (first
                | ((with_reducible apply g_mem); (focus (exact rfl)); first
      | ((with_reducible apply hpN_box 43 2 H); (focus (exact rfl)); (focus (exact rfl)); (focus (exact rfl)); (focus (exact rfl)); (focus (exact rfl)); intro w5 b2 H5; clear H; have H := H5; clear H5)
      | ((with_reducible apply hpN_alloc tyshelf_Shelf_string__int_ 4 H); (focus (exact rfl)); (focus (exact rfl)); (focus (exact rfl)); intro w5 b4 H5; clear H; have H := H5; clear H5)
      | ((with_reducible apply hpA_load tyhoistwaylaw06_Act H); (focus (exact rfl)); (focus (exact rfl)); (focus (first | (exact rfl) | (simp [Region.wanted]; done) | (simp only [Region.wanted]; go_simp; done))); (focus (repeat (first | exact List.Mem.head _ | apply List.Mem.tail))); (focus ((try simp only [List.drop_zero, List.drop_succ_cons, List.take_succ_cons, List.take_zero]); exact rfl)); (focus (exact rfl)))
      | ((with_reducible apply hpN_alloc tyhoistwaylaw06_Act 6 H); (focus (exact rfl)); (focus (exact rfl)); (focus (exact rfl)); intro w5 b6 H5; clear H; have H := H5; clear H5)
      | ((with_reducible apply hpA_store tyhoistwaylaw06_Act H); (focus (exact rfl)); (focus (exact rfl)); (focus (exact rfl)); (focus (exact rfl)); (focus (exact rfl)); (focus (repeat (first | apply Put.head | apply Put.tail))); (focus (first | (simp; done) | (simp [Value.oneCell']; done))); (focus (first | (simp; done) | (simp [Value.oneCell']; done))); (focus ((try simp only [spl]); exact rfl)); (focus (exact rfl)); intro w5 H5; clear H; have H := H5; clear H5)
      | ((with_reducible apply hpA_load1 tyint H); (focus (exact rfl)); (focus (exact rfl)); (focus (first | (exact rfl) | (simp [Region.wanted]; done) | (simp only [Region.wanted]; go_simp; done))); (focus (repeat (first | exact List.Mem.head _ | apply List.Mem.tail))); (focus ((try simp only [List.getElem?_cons_zero, List.getElem?_cons_succ]); exact rfl)))
      | ((with_reducible apply hpA_load tyshelf_Shelf_string__int_ H); (focus (exact rfl)); (focus (exact rfl)); (focus (first | (exact rfl) | (simp [Region.wanted]; done) | (simp only [Region.wanted]; go_simp; done))); (focus (repeat (first | exact List.Mem.head _ | apply List.Mem.tail))); (focus ((try simp only [List.drop_zero, List.drop_succ_cons, List.take_succ_cons, List.take_zero]); exact rfl)); (focus (exact rfl)))
      | ((with_reducible apply hpA_load1 tystring H); (focus (exact rfl)); (focus (exact rfl)); (focus (first | (exact rfl) | (simp [Region.wanted]; done) | (simp only [Region.wanted]; go_simp; done))); (focus (repeat (first | exact List.Mem.head _ | apply List.Mem.tail))); (focus ((try simp only [List.getElem?_cons_zero, List.getElem?_cons_succ]); exact rfl)))
      | ((with_reducible apply hpA_store tyshelf_Shelf_string__int_ H); (focus (exact rfl)); (focus (exact rfl)); (focus (exact rfl)); (focus (exact rfl)); (focus (exact rfl)); (focus (repeat (first | apply Put.head | apply Put.tail))); (focus (first | (simp; done) | (simp [Value.oneCell']; done))); (focus (first | (simp; done) | (simp [Value.oneCell']; done))); (focus ((try simp only [spl]); exact rfl)); (focus (exact rfl)); intro w5 H5; clear H; have H := H5; clear H5))
                | ((with_reducible apply g_mem); (focus (exact rfl)); (with_reducible apply hpS_load tyhoistwaylaw06_Act H); (focus (exact rfl)); (focus (exact rfl)); (focus (first | (exact rfl) | (simp [Region.wanted]; done) | (simp only [Region.wanted]; go_simp; done))); (focus (repeat (first | exact List.Mem.head _ | apply List.Mem.tail))); (focus (exact HX.out)); (focus (exact rfl)))
                | (go_at_call 37; (refine (withoutC room _ _ ps1 x.key _ (hp_held H (by simp)) hs1.out hb1).mono ?_); rintro e w5 ⟨a6, c6, rfl, h5⟩; have hsz := H.out.off.size; have H5 := hp_got H h5.2.2 h5.1 (by decide) h5.2.1 (by simp); clear H; have H := H5; clear H5))
              go_roundw
              case rel =>
                exact ⟨i + 1, (withoutV x.key ps1), a6, c6, by omega, by go_num, Lib.hid (HNX.out _ (by simp [stepV, HQ.out])), Lib.hid (From.trans hf1.out h5.2.1 hsz), Lib.hid (H.out.sub (by simp))⟩
              case measure => simp [intOf]; omega
            · skip
              rcases Bool.eq_false_or_eq_true (x.kind == 5) with q5 | q5
              · have HQ := Lib.hid (show x.kind = 5 by simpa using q5)
                have hby := by_is x.val
                go_wp2_with (first
                  | ((with_reducible apply g_mem); (focus (exact rfl)); first
      | ((with_reducible apply hpN_box 43 2 H); (focus (exact rfl)); (focus (exact rfl)); (focus (exact rfl)); (focus (exact rfl)); (focus (exact rfl)); intro w5 b2 H5; clear H; have H := H5; clear H5)
      | ((with_reducible apply hpN_alloc tyshelf_Shelf_string__int_ 4 H); (focus (exact rfl)); (focus (exact rfl)); (focus (exact rfl)); intro w5 b4 H5; clear H; have H := H5; clear H5)
      | ((with_reducible apply hpA_load tyhoistwaylaw06_Act H); (focus (exact rfl)); (focus (exact rfl)); (focus (first | (exact rfl) | (simp [Region.wanted]; done) | (simp only [Region.wanted]; go_simp; done))); (focus (repeat (first | exact List.Mem.head _ | apply List.Mem.tail))); (focus ((try simp only [List.drop_zero, List.drop_succ_cons, List.take_succ_cons, List.take_zero]); exact rfl)); (focus (exact rfl)))
      | ((with_reducible apply hpN_alloc tyhoistwaylaw06_Act 6 H); (focus (exact rfl)); (focus (exact rfl)); (focus (exact rfl)); intro w5 b6 H5; clear H; have H := H5; clear H5)
      | ((with_reducible apply hpA_store tyhoistwaylaw06_Act H); (focus (exact rfl)); (focus (exact rfl)); (focus (exact rfl)); (focus (exact rfl)); (focus (exact rfl)); (focus (repeat (first | apply Put.head | apply Put.tail))); (focus (first | (simp; done) | (simp [Value.oneCell']; done))); (focus (first | (simp; done) | (simp [Value.oneCell']; done))); (focus ((try simp only [spl]); exact rfl)); (focus (exact rfl)); intro w5 H5; clear H; have H := H5; clear H5)
      | ((with_reducible apply hpA_load1 tyint H); (focus (exact rfl)); (focus (exact rfl)); (focus (first | (exact rfl) | (simp [Region.wanted]; done) | (simp only [Region.wanted]; go_simp; done))); (focus (repeat (first | exact List.Mem.head _ | apply List.Mem.tail))); (focus ((try simp only [List.getElem?_cons_zero, List.getElem?_cons_succ]); exact rfl)))
      | ((with_reducible apply hpA_load tyshelf_Shelf_string__int_ H); (focus (exact rfl)); (focus (exact rfl)); (focus (first | (exact rfl) | (simp [Region.wanted]; done) | (simp only [Region.wanted]; go_simp; done))); (focus (repeat (first | exact List.Mem.head _ | apply List.Mem.tail))); (focus ((try simp only [List.drop_zero, List.drop_succ_cons, List.take_succ_cons, List.take_zero]); exact rfl)); (focus (exact rfl)))
      | ((with_reducible apply hpA_load1 tystring H); (focus (exact rfl)); (focus (exact rfl)); (focus (first | (exact rfl) | (simp [Region.wanted]; done) | (simp only [Region.wanted]; go_simp; done))); (focus (repeat (first | exact List.Mem.head _ | apply List.Mem.tail))); (focus ((try simp only [List.getElem?_cons_zero, List.getElem?_cons_succ]); exact rfl)))
      | ((with_reducible apply hpA_store tyshelf_Shelf_string__int_ H); (focus (exact rfl)); (focus (exact rfl)); (focus (exact rfl)); (focus (exact rfl)); (focus (exact rfl)); (focus (repeat (first | apply Put.head | apply Put.tail))); (focus (first | (simp; done) | (simp [Value.oneCell']; done))); (focus (first | (simp; done) | (simp [Value.oneCell']; done))); (focus ((try simp only [spl]); exact rfl)); (focus (exact rfl)); intro w5 H5; clear H; have H := H5; clear H5))
                  | ((with_reducible apply g_mem); (focus (exact rfl)); (with_reducible apply hpS_load tyhoistwaylaw06_Act H); (focus (exact rfl)); (focus (exact rfl)); (focus (first | (exact rfl) | (simp [Region.wanted]; done) | (simp only [Region.wanted]; go_simp; done))); (focus (repeat (first | exact List.Mem.head _ | apply List.Mem.tail))); (focus (exact HX.out)); (focus (exact rfl)))
                  | (go_at_call 32; (refine (keepIs room _ _ ps1 (keptV (byV x.val)) (.agg #[.int .i64 (byV x.val)]) _ (hp_held H (by simp)) hb1 (fun w2 _ p _ => partIs _ p (by_wf x.val) w2)).mono ?_); rintro e w5 ⟨a6, c6, rfl, h5⟩; have hsz := H.out.off.size; have H5 := hp_got H h5.2.2 h5.1 (by decide) h5.2.1 (by simp); clear H; have H := H5; clear H5))
                go_roundw
                case rel =>
                  exact ⟨i + 1, (ps1.filter (keptV (byV x.val))), a6, c6, by omega, by go_num, Lib.hid (HNX.out _ (by simp [stepV, HQ.out])), Lib.hid (From.trans hf1.out (From.more h5.2.1 _) hsz), Lib.hid (H.out.sub (by simp))⟩
                case measure => simp [intOf]; omega
              · skip
                have HQ := Lib.hid (show (¬ x.kind = 1) ∧ (¬ x.kind = 2) ∧ (¬ x.kind = 3) ∧ (¬ x.kind = 4) ∧ (¬ x.kind = 5) by simp at q1 q2 q3 q4 q5; omega)
                go_wp2_with (first
                  | ((with_reducible apply g_mem); (focus (exact rfl)); first
      | ((with_reducible apply hpN_box 43 2 H); (focus (exact rfl)); (focus (exact rfl)); (focus (exact rfl)); (focus (exact rfl)); (focus (exact rfl)); intro w5 b2 H5; clear H; have H := H5; clear H5)
      | ((with_reducible apply hpN_alloc tyshelf_Shelf_string__int_ 4 H); (focus (exact rfl)); (focus (exact rfl)); (focus (exact rfl)); intro w5 b4 H5; clear H; have H := H5; clear H5)
      | ((with_reducible apply hpA_load tyhoistwaylaw06_Act H); (focus (exact rfl)); (focus (exact rfl)); (focus (first | (exact rfl) | (simp [Region.wanted]; done) | (simp only [Region.wanted]; go_simp; done))); (focus (repeat (first | exact List.Mem.head _ | apply List.Mem.tail))); (focus ((try simp only [List.drop_zero, List.drop_succ_cons, List.take_succ_cons, List.take_zero]); exact rfl)); (focus (exact rfl)))
      | ((with_reducible apply hpN_alloc tyhoistwaylaw06_Act 6 H); (focus (exact rfl)); (focus (exact rfl)); (focus (exact rfl)); intro w5 b6 H5; clear H; have H := H5; clear H5)
      | ((with_reducible apply hpA_store tyhoistwaylaw06_Act H); (focus (exact rfl)); (focus (exact rfl)); (focus (exact rfl)); (focus (exact rfl)); (focus (exact rfl)); (focus (repeat (first | apply Put.head | apply Put.tail))); (focus (first | (simp; done) | (simp [Value.oneCell']; done))); (focus (first | (simp; done) | (simp [Value.oneCell']; done))); (focus ((try simp only [spl]); exact rfl)); (focus (exact rfl)); intro w5 H5; clear H; have H := H5; clear H5)
      | ((with_reducible apply hpA_load1 tyint H); (focus (exact rfl)); (focus (exact rfl)); (focus (first | (exact rfl) | (simp [Region.wanted]; done) | (simp only [Region.wanted]; go_simp; done))); (focus (repeat (first | exact List.Mem.head _ | apply List.Mem.tail))); (focus ((try simp only [List.getElem?_cons_zero, List.getElem?_cons_succ]); exact rfl)))
      | ((with_reducible apply hpA_load tyshelf_Shelf_string__int_ H); (focus (exact rfl)); (focus (exact rfl)); (focus (first | (exact rfl) | (simp [Region.wanted]; done) | (simp only [Region.wanted]; go_simp; done))); (focus (repeat (first | exact List.Mem.head _ | apply List.Mem.tail))); (focus ((try simp only [List.drop_zero, List.drop_succ_cons, List.take_succ_cons, List.take_zero]); exact rfl)); (focus (exact rfl)))
      | ((with_reducible apply hpA_load1 tystring H); (focus (exact rfl)); (focus (exact rfl)); (focus (first | (exact rfl) | (simp [Region.wanted]; done) | (simp only [Region.wanted]; go_simp; done))); (focus (repeat (first | exact List.Mem.head _ | apply List.Mem.tail))); (focus ((try simp only [List.getElem?_cons_zero, List.getElem?_cons_succ]); exact rfl)))
      | ((with_reducible apply hpA_store tyshelf_Shelf_string__int_ H); (focus (exact rfl)); (focus (exact rfl)); (focus (exact rfl)); (focus (exact rfl)); (focus (exact rfl)); (focus (repeat (first | apply Put.head | apply Put.tail))); (focus (first | (simp; done) | (simp [Value.oneCell']; done))); (focus (first | (simp; done) | (simp [Value.oneCell']; done))); (focus ((try simp only [spl]); exact rfl)); (focus (exact rfl)); intro w5 H5; clear H; have H := H5; clear H5))
                  | ((with_reducible apply g_mem); (focus (exact rfl)); (with_reducible apply hpS_load tyhoistwaylaw06_Act H); (focus (exact rfl)); (focus (exact rfl)); (focus (first | (exact rfl) | (simp [Region.wanted]; done) | (simp only [Region.wanted]; go_simp; done))); (focus (repeat (first | exact List.Mem.head _ | apply List.Mem.tail))); (focus (exact HX.out)); (focus (exact rfl))))
                go_roundw
                case rel =>
                  exact ⟨i + 1, ps1, a1, c1, by omega, by go_num, Lib.hid (HNX.out _ (by simp [stepV, HQ.out])), hf1, Lib.hid (H.out.sub (by simp))⟩
                case measure => simp [intOf]; omega
    · obtain rfl : i = n := by omega
      have hpe : Hid (ps1 = doesV room acts ps) := Lib.hid (by rw [hp1.out, List.take_of_length_le (by omega)])
      clear HN hp1
      go_wp2_with (first
        | ((with_reducible apply g_mem); (focus (exact rfl)); first
      | ((with_reducible apply hpN_box 43 2 H); (focus (exact rfl)); (focus (exact rfl)); (focus (exact rfl)); (focus (exact rfl)); (focus (exact rfl)); intro w5 b2 H5; clear H; have H := H5; clear H5)
      | ((with_reducible apply hpN_alloc tyshelf_Shelf_string__int_ 4 H); (focus (exact rfl)); (focus (exact rfl)); (focus (exact rfl)); intro w5 b4 H5; clear H; have H := H5; clear H5)
      | ((with_reducible apply hpA_load tyhoistwaylaw06_Act H); (focus (exact rfl)); (focus (exact rfl)); (focus (first | (exact rfl) | (simp [Region.wanted]; done) | (simp only [Region.wanted]; go_simp; done))); (focus (repeat (first | exact List.Mem.head _ | apply List.Mem.tail))); (focus ((try simp only [List.drop_zero, List.drop_succ_cons, List.take_succ_cons, List.take_zero]); exact rfl)); (focus (exact rfl)))
      | ((with_reducible apply hpN_alloc tyhoistwaylaw06_Act 6 H); (focus (exact rfl)); (focus (exact rfl)); (focus (exact rfl)); intro w5 b6 H5; clear H; have H := H5; clear H5)
      | ((with_reducible apply hpA_store tyhoistwaylaw06_Act H); (focus (exact rfl)); (focus (exact rfl)); (focus (exact rfl)); (focus (exact rfl)); (focus (exact rfl)); (focus (repeat (first | apply Put.head | apply Put.tail))); (focus (first | (simp; done) | (simp [Value.oneCell']; done))); (focus (first | (simp; done) | (simp [Value.oneCell']; done))); (focus ((try simp only [spl]); exact rfl)); (focus (exact rfl)); intro w5 H5; clear H; have H := H5; clear H5)
      | ((with_reducible apply hpA_load1 tyint H); (focus (exact rfl)); (focus (exact rfl)); (focus (first | (exact rfl) | (simp [Region.wanted]; done) | (simp only [Region.wanted]; go_simp; done))); (focus (repeat (first | exact List.Mem.head _ | apply List.Mem.tail))); (focus ((try simp only [List.getElem?_cons_zero, List.getElem?_cons_succ]); exact rfl)))
      | ((with_reducible apply hpA_load tyshelf_Shelf_string__int_ H); (focus (exact rfl)); (focus (exact rfl)); (focus (first | (exact rfl) | (simp [Region.wanted]; done) | (simp only [Region.wanted]; go_simp; done))); (focus (repeat (first | exact List.Mem.head _ | apply List.Mem.tail))); (focus ((try simp only [List.drop_zero, List.drop_succ_cons, List.take_succ_cons, List.take_zero]); exact rfl)); (focus (exact rfl)))
      | ((with_reducible apply hpA_load1 tystring H); (focus (exact rfl)); (focus (exact rfl)); (focus (first | (exact rfl) | (simp [Region.wanted]; done) | (simp only [Region.wanted]; go_simp; done))); (focus (repeat (first | exact List.Mem.head _ | apply List.Mem.tail))); (focus ((try simp only [List.getElem?_cons_zero, List.getElem?_cons_succ]); exact rfl)))
      | ((with_reducible apply hpA_store tyshelf_Shelf_string__int_ H); (focus (exact rfl)); (focus (exact rfl)); (focus (exact rfl)); (focus (exact rfl)); (focus (exact rfl)); (focus (repeat (first | apply Put.head | apply Put.tail))); (focus (first | (simp; done) | (simp [Value.oneCell']; done))); (focus (first | (simp; done) | (simp [Value.oneCell']; done))); (focus ((try simp only [spl]); exact rfl)); (focus (exact rfl)); intro w5 H5; clear H; have H := H5; clear H5)))
      (try simp only [Exit.inBlock, Exit.then])
      apply hp_ret_c tyshelf_Shelf_string__int_ H
      · exact rfl
      · exact rfl
      · exact rfl
      · (repeat (first | exact List.Mem.head _ | apply List.Mem.tail))
      · exact rfl
      · exact ⟨a1, c1, by rw [hpe.out], by rw [← hpe.out]; exact hp_held H (by simp), by rw [← hpe.out]; exact hf1.out, H.out.off⟩
end Go.Proofs.Ytfhhfmkfkoemjaa.Si6
