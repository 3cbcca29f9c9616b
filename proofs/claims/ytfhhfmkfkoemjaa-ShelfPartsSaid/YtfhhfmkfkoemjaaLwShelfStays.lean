/- A shelf stays ga it was: the walk of the statement. -/
import Derived.Test.YtfhhfmkfkoemjaaProg
import Derived.Below
import Derived.WalkKit
import Derived.KernelRfl
import Derived.RowKit3
import Derived.Deep.LoopGhost
import Derived.Deep.QuietTactic
import Derived.BigQuiet
import Derived.WideLaws
import Derived.Deep.DeepCutAuto
import Derived.Deep.CutBlock
import Derived.Lib.Hide
import Derived.Laws.BitsLemmas
import Derived.Laws.Bits64
import Derived.Laws.BitsAllLaws
import Derived.IntWalk
import Derived.Outline
import Derived.WalkSpells
import Derived.Test.YtfhhfmkfkoemjaaMem
import Derived.Test.YtfhhfmkfkoemjaaAw6
import Derived.Test.YtfhhfmkfkoemjaaHpF
namespace Go.Proofs.Ytfhhfmkfkoemjaa.Si6
open Go.RowKit Go.Proofs.Ytfhhfmkfkoemjaa.Mem

set_option maxRecDepth 20000
set_option maxHeartbeats 16000000
def roomK (n : Int) : Int := 1 + (IntKind.u64.wrap n).tmod 40
theorem roomK_is (n : Int) : wrap64 (1 + wrap64 ((IntKind.u64.wrap n).tmod 40)) = roomK n := by
  have := rest_is n 40 (by decide) (by decide)
  unfold roomK
  generalize (IntKind.u64.wrap n).tmod 40 = r at *
  unfold wrap64
  omega
theorem roomK_wf (n : Int) : 1 ≤ roomK n ∧ roomK n ≤ 40 := by
  have := rest_is n 40 (by decide) (by decide)
  unfold roomK
  omega
theorem newK (k : Int) (hk : 1 ≤ k ∧ k ≤ 40) (w : World) : Calls Try.prog 26 #[.int .i64 k] w fun e w' => e = .returned (.agg #[.int .i64 k, .slice none 0 0]) ∧ Off [] w w' := by
  have := newC k w
  rwa [if_neg (by omega)] at this
theorem hp_move {S : List Nat} {w0 w : World} {r : Res} {R : List Res} (H : Hid (Hp S w0 w R)) (h : r.holds w) (hro : r.ro = true) (i : Nat) (hi : R[i]? = some r) : Hid (Hp S w0 w (r :: R)) :=
  Lib.hid (H.out.share r (Off.refl [] w) h hro fun q hq => ⟨H.out.lt r (List.mem_of_getElem? hi) q hq, .inr (.inr ⟨r, List.mem_of_getElem? hi, hro, hq⟩)⟩)
theorem does_f (k : Int) (fs ga gb : List ActV) (hl : fs.length ≤ 30 ∧ ga.length ≤ 30 ∧ gb.length ≤ 30) (a b : Option Addr) (c d : Nat) (w : World) (h : (rS a c 2 (([] : List PairV).map rowOf)).holds w) (h2 : (rS b d 3 (fs.map actRow)).holds w) : Calls Try.prog 31 #[.agg #[.int .i64 k, .slice a 0 c], .slice b fs.length d] w fun e w' => ∃ a' c', e = .returned (.agg #[.int .i64 k, .slice a' (doesV k fs []).length c']) ∧ Gives w w' [rS a c 2 (([] : List PairV).map rowOf)] a' c' (doesV k fs []) := by
  exact doesC k a b c d [] fs w h h2 List.Pairwise.nil (by simp; omega)
theorem does_a (k : Int) (fs ga gb : List ActV) (hl : fs.length ≤ 30 ∧ ga.length ≤ 30 ∧ gb.length ≤ 30) (a b : Option Addr) (c d : Nat) (w : World) (h : (rS a c 2 (((doesV k fs []) : List PairV).map rowOf)).holds w) (h2 : (rS b d 3 (ga.map actRow)).holds w) : Calls Try.prog 31 #[.agg #[.int .i64 k, .slice a (doesV k fs []).length c], .slice b ga.length d] w fun e w' => ∃ a' c', e = .returned (.agg #[.int .i64 k, .slice a' (doesV k ga (doesV k fs [])).length c']) ∧ Gives w w' [rS a c 2 (((doesV k fs []) : List PairV).map rowOf)] a' c' (doesV k ga (doesV k fs [])) := by
  have h1 := few_does k fs []
  simp only [List.length_nil] at h1
  exact doesC k a b c d (doesV k fs []) ga w h h2 (sorted_does k fs List.Pairwise.nil) (by omega)
theorem does_b (k : Int) (fs ga gb : List ActV) (hl : fs.length ≤ 30 ∧ ga.length ≤ 30 ∧ gb.length ≤ 30) (a b : Option Addr) (c d : Nat) (w : World) (h : (rS a c 2 (((doesV k fs []) : List PairV).map rowOf)).holds w) (h2 : (rS b d 3 (gb.map actRow)).holds w) : Calls Try.prog 31 #[.agg #[.int .i64 k, .slice a (doesV k fs []).length c], .slice b gb.length d] w fun e w' => ∃ a' c', e = .returned (.agg #[.int .i64 k, .slice a' (doesV k gb (doesV k fs [])).length c']) ∧ Gives w w' [rS a c 2 (((doesV k fs []) : List PairV).map rowOf)] a' c' (doesV k gb (doesV k fs [])) := by
  have h1 := few_does k fs []
  simp only [List.length_nil] at h1
  exact doesC k a b c d (doesV k fs []) gb w h h2 (sorted_does k fs List.Pairwise.nil) (by omega)
theorem eqK (k : Int) (ps : List PairV) (a b : Option Addr) (c d : Nat) (w : World) (h1 : (rS a c 2 (ps.map rowOf)).holds w) (h2 : (rS b d 2 (ps.map rowOf)).holds w) (hb : ps.length ≤ 1000000) :
    Calls Try.prog 30 #[.agg #[.int .i64 k, .slice a ps.length c], .agg #[.int .i64 k, .slice b ps.length d]] w fun e w' => e = .returned (.bool true) ∧ Off [] w w' := by
  have := equalC k k a b c d ps ps w h1 h2 hb hb
  simpa using this
theorem stays_main (n k : Int) (ra sa ta : Option Addr) (rc sc tc : Nat) (fs ga gb : List ActV) (w : World) (hl : fs.length ≤ 30 ∧ ga.length ≤ 30 ∧ gb.length ≤ 30) (hk : 1 ≤ k ∧ k ≤ 40) (hkn : wrap64 (1 + wrap64 ((IntKind.u64.wrap n).tmod 40)) = k) (h1 : Hid ((rS ra rc 3 (fs.map actRow)).holds w)) (h2 : Hid ((rS sa sc 3 (ga.map actRow)).holds w)) (h3 : Hid ((rS ta tc 3 (gb.map actRow)).holds w)) : Calls Try.prog 6 #[.int .i64 n, .slice ra fs.length rc, .slice sa ga.length sc, .slice ta gb.length tc] w fun e w' => e = .returned (.bool true) ∧ Off [] w w' := by
  have H0 := Lib.hid (Hp.start [] w)
  have H1 := hp_old H0 h3.out (by decide)
  have H2 := hp_old H1 h2.out (by decide)
  have H := hp_old H2 h1.out (by decide)
  clear H0 H1 H2 h1 h2 h3
  have l1 : ¬ (30 < (fs.length : Int)) := by omega
  have l2 : ¬ (30 < (ga.length : Int)) := by omega
  have l3 : ¬ (30 < (gb.length : Int)) := by omega
  go_enter Try.func6, Try.ntmps6
  go_upto_region 7 with (first
    | ((with_reducible apply g_mem); (focus (exact rfl)); first
      | ((with_reducible apply hpN_alloc tyshelf_Shelf_string__int_ 10 H); (focus (exact rfl)); (focus (exact rfl)); (focus (exact rfl)); intro w5 b10 H5; clear H; have H := H5; clear H5)
      | ((with_reducible apply hpA_store tyshelf_Shelf_string__int_ H); (focus (exact rfl)); (focus (exact rfl)); (focus (exact rfl)); (focus (exact rfl)); (focus (exact rfl)); (focus (repeat (first | apply Put.head | apply Put.tail))); (focus (first | (simp; done) | (simp [Value.oneCell']; done))); (focus (first | (simp; done) | (simp [Value.oneCell']; done))); (focus ((try simp only [spl]); exact rfl)); (focus (exact rfl)); intro w5 H5; clear H; have H := H5; clear H5)
      | ((with_reducible apply hpA_load tyshelf_Shelf_string__int_ H); (focus (exact rfl)); (focus (exact rfl)); (focus (first | (exact rfl) | (simp [Region.wanted]; done) | (simp only [Region.wanted]; go_simp; done))); (focus (repeat (first | exact List.Mem.head _ | apply List.Mem.tail))); (focus ((try simp only [List.drop_zero, List.drop_succ_cons, List.take_succ_cons, List.take_zero]); exact rfl)); (focus (exact rfl)))
      | ((with_reducible apply hpN_alloc tyshelf_Shelf_string__int_ 11 H); (focus (exact rfl)); (focus (exact rfl)); (focus (exact rfl)); intro w5 b11 H5; clear H; have H := H5; clear H5)
      | ((with_reducible apply hpN_alloc tyshelf_Shelf_string__int_ 12 H); (focus (exact rfl)); (focus (exact rfl)); (focus (exact rfl)); intro w5 b12 H5; clear H; have H := H5; clear H5)
      | ((with_reducible apply hpN_alloc tyshelf_Shelf_string__int_ 13 H); (focus (exact rfl)); (focus (exact rfl)); (focus (exact rfl)); intro w5 b13 H5; clear H; have H := H5; clear H5)
      | ((with_reducible apply hpN_alloc tyshelf_Shelf_string__int_ 14 H); (focus (exact rfl)); (focus (exact rfl)); (focus (exact rfl)); intro w5 b14 H5; clear H; have H := H5; clear H5))
    | (go_at_call 25; (with_reducible refine (awake6 _).mono ?_); rintro e w5 ⟨rfl, ho⟩; have H5 := Lib.hid (H.out.quiet ho); clear H ho; have H := H5; clear H5)
    | (go_at_call 26; (with_reducible refine (newK k hk _).mono ?_); rintro e w5 ⟨rfl, ho⟩; have H5 := hp_none (Lib.hid (H.out.quiet ho)) 2 (by decide); clear H ho; have H := H5; clear H5)
    | (go_at_call 31; (with_reducible refine (does_f k fs ga gb hl _ _ _ _ _ (hp_held H (by simp)) (hp_held H (by simp))).mono ?_); rintro e w5 ⟨af1, cf1, rfl, h5⟩; have hsz := H.out.off.size; have H5 := hp_got H h5.2.2 h5.1 (by decide) h5.2.1 (by simp); clear H; have H := H5; clear H5))
  go_upto_region 8 with (first
    | ((with_reducible apply g_mem); (focus (exact rfl)); first
      | ((with_reducible apply hpN_alloc tyshelf_Shelf_string__int_ 10 H); (focus (exact rfl)); (focus (exact rfl)); (focus (exact rfl)); intro w5 b10 H5; clear H; have H := H5; clear H5)
      | ((with_reducible apply hpA_store tyshelf_Shelf_string__int_ H); (focus (exact rfl)); (focus (exact rfl)); (focus (exact rfl)); (focus (exact rfl)); (focus (exact rfl)); (focus (repeat (first | apply Put.head | apply Put.tail))); (focus (first | (simp; done) | (simp [Value.oneCell']; done))); (focus (first | (simp; done) | (simp [Value.oneCell']; done))); (focus ((try simp only [spl]); exact rfl)); (focus (exact rfl)); intro w5 H5; clear H; have H := H5; clear H5)
      | ((with_reducible apply hpA_load tyshelf_Shelf_string__int_ H); (focus (exact rfl)); (focus (exact rfl)); (focus (first | (exact rfl) | (simp [Region.wanted]; done) | (simp only [Region.wanted]; go_simp; done))); (focus (repeat (first | exact List.Mem.head _ | apply List.Mem.tail))); (focus ((try simp only [List.drop_zero, List.drop_succ_cons, List.take_succ_cons, List.take_zero]); exact rfl)); (focus (exact rfl)))
      | ((with_reducible apply hpN_alloc tyshelf_Shelf_string__int_ 11 H); (focus (exact rfl)); (focus (exact rfl)); (focus (exact rfl)); intro w5 b11 H5; clear H; have H := H5; clear H5)
      | ((with_reducible apply hpN_alloc tyshelf_Shelf_string__int_ 12 H); (focus (exact rfl)); (focus (exact rfl)); (focus (exact rfl)); intro w5 b12 H5; clear H; have H := H5; clear H5)
      | ((with_reducible apply hpN_alloc tyshelf_Shelf_string__int_ 13 H); (focus (exact rfl)); (focus (exact rfl)); (focus (exact rfl)); intro w5 b13 H5; clear H; have H := H5; clear H5)
      | ((with_reducible apply hpN_alloc tyshelf_Shelf_string__int_ 14 H); (focus (exact rfl)); (focus (exact rfl)); (focus (exact rfl)); intro w5 b14 H5; clear H; have H := H5; clear H5))
    | (go_at_call 25; (with_reducible refine (awake6 _).mono ?_); rintro e w5 ⟨rfl, ho⟩; have H5 := Lib.hid (H.out.quiet ho); clear H ho; have H := H5; clear H5)
    | (go_at_call 31; (with_reducible refine (does_a k fs ga gb hl _ _ _ _ _ (hp_held H (by simp)) (hp_held H (by simp))).mono ?_); rintro e w5 ⟨aa1, ca1, rfl, h5⟩; have hsz := H.out.off.size; have H5 := hp_got H h5.2.2 h5.1 (by decide) h5.2.1 (by simp); clear H; have H := H5; clear H5))
  go_upto_region 9 with (first
    | ((with_reducible apply g_mem); (focus (exact rfl)); first
      | ((with_reducible apply hpN_alloc tyshelf_Shelf_string__int_ 10 H); (focus (exact rfl)); (focus (exact rfl)); (focus (exact rfl)); intro w5 b10 H5; clear H; have H := H5; clear H5)
      | ((with_reducible apply hpA_store tyshelf_Shelf_string__int_ H); (focus (exact rfl)); (focus (exact rfl)); (focus (exact rfl)); (focus (exact rfl)); (focus (exact rfl)); (focus (repeat (first | apply Put.head | apply Put.tail))); (focus (first | (simp; done) | (simp [Value.oneCell']; done))); (focus (first | (simp; done) | (simp [Value.oneCell']; done))); (focus ((try simp only [spl]); exact rfl)); (focus (exact rfl)); intro w5 H5; clear H; have H := H5; clear H5)
      | ((with_reducible apply hpA_load tyshelf_Shelf_string__int_ H); (focus (exact rfl)); (focus (exact rfl)); (focus (first | (exact rfl) | (simp [Region.wanted]; done) | (simp only [Region.wanted]; go_simp; done))); (focus (repeat (first | exact List.Mem.head _ | apply List.Mem.tail))); (focus ((try simp only [List.drop_zero, List.drop_succ_cons, List.take_succ_cons, List.take_zero]); exact rfl)); (focus (exact rfl)))
      | ((with_reducible apply hpN_alloc tyshelf_Shelf_string__int_ 11 H); (focus (exact rfl)); (focus (exact rfl)); (focus (exact rfl)); intro w5 b11 H5; clear H; have H := H5; clear H5)
      | ((with_reducible apply hpN_alloc tyshelf_Shelf_string__int_ 12 H); (focus (exact rfl)); (focus (exact rfl)); (focus (exact rfl)); intro w5 b12 H5; clear H; have H := H5; clear H5)
      | ((with_reducible apply hpN_alloc tyshelf_Shelf_string__int_ 13 H); (focus (exact rfl)); (focus (exact rfl)); (focus (exact rfl)); intro w5 b13 H5; clear H; have H := H5; clear H5)
      | ((with_reducible apply hpN_alloc tyshelf_Shelf_string__int_ 14 H); (focus (exact rfl)); (focus (exact rfl)); (focus (exact rfl)); intro w5 b14 H5; clear H; have H := H5; clear H5))
    | (go_at_call 25; (with_reducible refine (awake6 _).mono ?_); rintro e w5 ⟨rfl, ho⟩; have H5 := Lib.hid (H.out.quiet ho); clear H ho; have H := H5; clear H5)
    | (go_at_call 31; (with_reducible refine (does_b k fs ga gb hl _ _ _ _ _ (hp_held H (by simp)) (hp_held H (by simp))).mono ?_); rintro e w5 ⟨ab1, cb1, rfl, h5⟩; have hsz := H.out.off.size; have H5 := hp_got H h5.2.2 h5.1 (by decide) h5.2.1 (by simp); clear H; have H := H5; clear H5))
  go_upto_region 10 with (first
    | ((with_reducible apply g_mem); (focus (exact rfl)); first
      | ((with_reducible apply hpN_alloc tyshelf_Shelf_string__int_ 10 H); (focus (exact rfl)); (focus (exact rfl)); (focus (exact rfl)); intro w5 b10 H5; clear H; have H := H5; clear H5)
      | ((with_reducible apply hpA_store tyshelf_Shelf_string__int_ H); (focus (exact rfl)); (focus (exact rfl)); (focus (exact rfl)); (focus (exact rfl)); (focus (exact rfl)); (focus (repeat (first | apply Put.head | apply Put.tail))); (focus (first | (simp; done) | (simp [Value.oneCell']; done))); (focus (first | (simp; done) | (simp [Value.oneCell']; done))); (focus ((try simp only [spl]); exact rfl)); (focus (exact rfl)); intro w5 H5; clear H; have H := H5; clear H5)
      | ((with_reducible apply hpA_load tyshelf_Shelf_string__int_ H); (focus (exact rfl)); (focus (exact rfl)); (focus (first | (exact rfl) | (simp [Region.wanted]; done) | (simp only [Region.wanted]; go_simp; done))); (focus (repeat (first | exact List.Mem.head _ | apply List.Mem.tail))); (focus ((try simp only [List.drop_zero, List.drop_succ_cons, List.take_succ_cons, List.take_zero]); exact rfl)); (focus (exact rfl)))
      | ((with_reducible apply hpN_alloc tyshelf_Shelf_string__int_ 11 H); (focus (exact rfl)); (focus (exact rfl)); (focus (exact rfl)); intro w5 b11 H5; clear H; have H := H5; clear H5)
      | ((with_reducible apply hpN_alloc tyshelf_Shelf_string__int_ 12 H); (focus (exact rfl)); (focus (exact rfl)); (focus (exact rfl)); intro w5 b12 H5; clear H; have H := H5; clear H5)
      | ((with_reducible apply hpN_alloc tyshelf_Shelf_string__int_ 13 H); (focus (exact rfl)); (focus (exact rfl)); (focus (exact rfl)); intro w5 b13 H5; clear H; have H := H5; clear H5)
      | ((with_reducible apply hpN_alloc tyshelf_Shelf_string__int_ 14 H); (focus (exact rfl)); (focus (exact rfl)); (focus (exact rfl)); intro w5 b14 H5; clear H; have H := H5; clear H5))
    | (go_at_call 25; (with_reducible refine (awake6 _).mono ?_); rintro e w5 ⟨rfl, ho⟩; have H5 := Lib.hid (H.out.quiet ho); clear H ho; have H := H5; clear H5)
    | (go_at_call 26; (with_reducible refine (newK k hk _).mono ?_); rintro e w5 ⟨rfl, ho⟩; have H5 := hp_none (Lib.hid (H.out.quiet ho)) 2 (by decide); clear H ho; have H := H5; clear H5)
    | (go_at_call 31; (with_reducible refine (does_f k fs ga gb hl _ _ _ _ _ (hp_held H (by simp)) (hp_held H (by simp))).mono ?_); rintro e w5 ⟨af2, cf2, rfl, h5⟩; have hsz := H.out.off.size; have H5 := hp_got H h5.2.2 h5.1 (by decide) h5.2.1 (by simp); clear H; have H := H5; clear H5)
    | (go_at_call 31; (with_reducible refine (does_b k fs ga gb hl _ _ _ _ _ (hp_held H (by simp)) (hp_held H (by simp))).mono ?_); rintro e w5 ⟨ab2, cb2, rfl, h5⟩; have hsz := H.out.off.size; have H5 := hp_got H h5.2.2 h5.1 (by decide) h5.2.1 (by simp); clear H; have H := H5; clear H5))
  go_upto_region 11 with (first
    | ((with_reducible apply g_mem); (focus (exact rfl)); first
      | ((with_reducible apply hpN_alloc tyshelf_Shelf_string__int_ 10 H); (focus (exact rfl)); (focus (exact rfl)); (focus (exact rfl)); intro w5 b10 H5; clear H; have H := H5; clear H5)
      | ((with_reducible apply hpA_store tyshelf_Shelf_string__int_ H); (focus (exact rfl)); (focus (exact rfl)); (focus (exact rfl)); (focus (exact rfl)); (focus (exact rfl)); (focus (repeat (first | apply Put.head | apply Put.tail))); (focus (first | (simp; done) | (simp [Value.oneCell']; done))); (focus (first | (simp; done) | (simp [Value.oneCell']; done))); (focus ((try simp only [spl]); exact rfl)); (focus (exact rfl)); intro w5 H5; clear H; have H := H5; clear H5)
      | ((with_reducible apply hpA_load tyshelf_Shelf_string__int_ H); (focus (exact rfl)); (focus (exact rfl)); (focus (first | (exact rfl) | (simp [Region.wanted]; done) | (simp only [Region.wanted]; go_simp; done))); (focus (repeat (first | exact List.Mem.head _ | apply List.Mem.tail))); (focus ((try simp only [List.drop_zero, List.drop_succ_cons, List.take_succ_cons, List.take_zero]); exact rfl)); (focus (exact rfl)))
      | ((with_reducible apply hpN_alloc tyshelf_Shelf_string__int_ 11 H); (focus (exact rfl)); (focus (exact rfl)); (focus (exact rfl)); intro w5 b11 H5; clear H; have H := H5; clear H5)
      | ((with_reducible apply hpN_alloc tyshelf_Shelf_string__int_ 12 H); (focus (exact rfl)); (focus (exact rfl)); (focus (exact rfl)); intro w5 b12 H5; clear H; have H := H5; clear H5)
      | ((with_reducible apply hpN_alloc tyshelf_Shelf_string__int_ 13 H); (focus (exact rfl)); (focus (exact rfl)); (focus (exact rfl)); intro w5 b13 H5; clear H; have H := H5; clear H5)
      | ((with_reducible apply hpN_alloc tyshelf_Shelf_string__int_ 14 H); (focus (exact rfl)); (focus (exact rfl)); (focus (exact rfl)); intro w5 b14 H5; clear H; have H := H5; clear H5))
    | (go_at_call 25; (with_reducible refine (awake6 _).mono ?_); rintro e w5 ⟨rfl, ho⟩; have H5 := Lib.hid (H.out.quiet ho); clear H ho; have H := H5; clear H5)
    | (go_at_call 26; (with_reducible refine (newK k hk _).mono ?_); rintro e w5 ⟨rfl, ho⟩; have H5 := hp_none (Lib.hid (H.out.quiet ho)) 2 (by decide); clear H ho; have H := H5; clear H5)
    | (go_at_call 31; (with_reducible refine (does_f k fs ga gb hl _ _ _ _ _ (hp_held H (by simp)) (hp_held H (by simp))).mono ?_); rintro e w5 ⟨af3, cf3, rfl, h5⟩; have hsz := H.out.off.size; have H5 := hp_got H h5.2.2 h5.1 (by decide) h5.2.1 (by simp); clear H; have H := H5; clear H5))
  have hF : (doesV k fs []).length ≤ 1000000 := by have := few_does k fs []; simp at this; omega
  have hA : (doesV k ga (doesV k fs [])).length ≤ 1000000 := by have := few_does k ga (doesV k fs []); have := few_does k fs []; simp at this; omega
  have hB : (doesV k gb (doesV k fs [])).length ≤ 1000000 := by have := few_does k gb (doesV k fs []); have := few_does k fs []; simp at this; omega
  (with_reducible apply g_region 11)
  refine hp_walksF H (fun j v w' => match j with | 0 => v = .agg #[.int .i64 k, .slice ab1 (doesV k gb (doesV k fs [])).length cb1] | 1 => v = .agg #[.int .i64 k, .slice ab2 (doesV k gb (doesV k fs [])).length cb2] | 2 => v = .bool true | 3 => v = .bool true | 4 => v = .agg #[.int .i64 k, .slice af1 (doesV k fs []).length cf1] | 5 => v = .agg #[.int .i64 k, .slice af3 (doesV k fs []).length cf3] | 6 => v = .bool true | 7 => v = .bool true | 8 => v = .bool true | 9 => v = .agg #[.int .i64 k, .slice aa1 (doesV k ga (doesV k fs [])).length ca1] | 10 => v = .agg #[.int .i64 k, .slice af3 (doesV k fs []).length cf3] | 11 => v = .slice sa ga.length sc | 12 => ∃ a7 c7, v = .agg #[.int .i64 k, .slice a7 (doesV k ga (doesV k fs [])).length c7] ∧ (rS a7 c7 2 ((doesV k ga (doesV k fs [])).map rowOf)).holds w' | 13 => v = .bool true | 14 => v = .bool true | 15 => v = .bool true | _ => True) ?_ (by kernel_rfl) ⟨[0, 0, 1, 2, 3, 3, 4, 5, 6, 7, 7, 7, 8, 9, 10, 11], by kernel_rfl⟩ (by kernel_rfl) 70 rfl (by kernel_rfl) (by kernel_rfl) ?_ ?_ ?_
  · intro j v w' w'' h ho
    match j, h with
    | 0, h => exact h
    | 1, h => exact h
    | 2, h => exact h
    | 3, h => exact h
    | 4, h => exact h
    | 5, h => exact h
    | 6, h => exact h
    | 7, h => exact h
    | 8, h => exact h
    | 9, h => exact h
    | 10, h => exact h
    | 11, h => exact h
    | 12, ⟨a7, c7, h1, h2⟩ => exact ⟨a7, c7, h1, (rS a7 c7 2 _).stable _ _ (fun q hq => ho.block q (rS_lt h2 (by decide) q hq) (by simp)) h2⟩
    | 13, h => exact h
    | 14, h => exact h
    | 15, h => exact h
    | _ + 16, _ => trivial
  · intro i o ho a' w' hfr H hdep hwant Q' hQ
    match i, ho with
    | 0, ho =>
      have ho2 := Option.some.inj ho
      clear ho
      subst ho2
      have e12 : a'.eval (.tmp 12) = .pointer (some ⟨b12, 0, none⟩) := (hfr.old 12 (by kernel_rfl)).trans rfl
      have g12 : (a'.tmps[12]?).getD undef = .pointer (some ⟨b12, 0, none⟩) := by rw [← Array.getD_eq_getD_getElem?]; exact e12
      refine hpA_load tyshelf_Shelf_string__int_ H rfl e12 hwant (by (repeat (first | exact List.Mem.head _ | apply List.Mem.tail))) rfl rfl ?_
      exact hQ _ _ (Off.refl [] _) H rfl
    | 1, ho =>
      have ho2 := Option.some.inj ho
      clear ho
      subst ho2
      have e13 : a'.eval (.tmp 13) = .pointer (some ⟨b13, 0, none⟩) := (hfr.old 13 (by kernel_rfl)).trans rfl
      have g13 : (a'.tmps[13]?).getD undef = .pointer (some ⟨b13, 0, none⟩) := by rw [← Array.getD_eq_getD_getElem?]; exact e13
      refine hpA_load tyshelf_Shelf_string__int_ H rfl e13 hwant (by (repeat (first | exact List.Mem.head _ | apply List.Mem.tail))) rfl rfl ?_
      exact hQ _ _ (Off.refl [] _) H rfl
    | 2, ho =>
      have ho2 := Option.some.inj ho
      clear ho
      subst ho2
      have e55 : a'.eval (.tmp 55) = .agg #[.int .i64 k, .slice ab1 (doesV k gb (doesV k fs [])).length cb1] := hdep ⟨0, .data⟩ (by simp) rfl
      have g55 : (a'.tmps[55]?).getD undef = .agg #[.int .i64 k, .slice ab1 (doesV k gb (doesV k fs [])).length cb1] := by rw [← Array.getD_eq_getD_getElem?]; exact e55
      have e56 : a'.eval (.tmp 56) = .agg #[.int .i64 k, .slice ab2 (doesV k gb (doesV k fs [])).length cb2] := hdep ⟨1, .data⟩ (by simp) rfl
      have g56 : (a'.tmps[56]?).getD undef = .agg #[.int .i64 k, .slice ab2 (doesV k gb (doesV k fs [])).length cb2] := by rw [← Array.getD_eq_getD_getElem?]; exact e56
      refine wpList_step fun K hK => ?_
      rw [if_pos hwant]
      refine Inv.wp_call 30 #[.agg #[.int .i64 k, .slice ab1 (doesV k gb (doesV k fs [])).length cb1], .agg #[.int .i64 k, .slice ab2 (doesV k gb (doesV k fs [])).length cb2]] (by simp only [execOp]; go_simp) (eqK k _ _ _ _ _ _ (hp_held H (by (repeat (first | exact List.Mem.head _ | apply List.Mem.tail)))) (hp_held H (by (repeat (first | exact List.Mem.head _ | apply List.Mem.tail)))) hB) ?_
      rintro e w2 ⟨rfl, ho⟩
      exact ⟨_, rfl, hK _ _ (hQ _ _ ho (Lib.hid (H.out.quiet ho)) rfl)⟩
    | 3, ho =>
      have ho2 := Option.some.inj ho
      clear ho
      subst ho2
      have e57 : a'.eval (.tmp 57) = .bool true := hdep ⟨2, .data⟩ (by simp) rfl
      have g57 : (a'.tmps[57]?).getD undef = .bool true := by rw [← Array.getD_eq_getD_getElem?]; exact e57
      refine wpList_step fun K hK => ?_
      rw [if_pos hwant]
      exact Inv.wp_val (.bool true) (by simp only [execOp]; go_simp) (hK _ _ (hQ _ _ (Off.refl [] _) H rfl))
    | 4, ho =>
      have ho2 := Option.some.inj ho
      clear ho
      subst ho2
      have e10 : a'.eval (.tmp 10) = .pointer (some ⟨b10, 0, none⟩) := (hfr.old 10 (by kernel_rfl)).trans rfl
      have g10 : (a'.tmps[10]?).getD undef = .pointer (some ⟨b10, 0, none⟩) := by rw [← Array.getD_eq_getD_getElem?]; exact e10
      refine hpA_load tyshelf_Shelf_string__int_ H rfl e10 hwant (by (repeat (first | exact List.Mem.head _ | apply List.Mem.tail))) rfl rfl ?_
      exact hQ _ _ (Off.refl [] _) H rfl
    | 5, ho =>
      have ho2 := Option.some.inj ho
      clear ho
      subst ho2
      have e14 : a'.eval (.tmp 14) = .pointer (some ⟨b14, 0, none⟩) := (hfr.old 14 (by kernel_rfl)).trans rfl
      have g14 : (a'.tmps[14]?).getD undef = .pointer (some ⟨b14, 0, none⟩) := by rw [← Array.getD_eq_getD_getElem?]; exact e14
      refine hpA_load tyshelf_Shelf_string__int_ H rfl e14 hwant (by (repeat (first | exact List.Mem.head _ | apply List.Mem.tail))) rfl rfl ?_
      exact hQ _ _ (Off.refl [] _) H rfl
    | 6, ho =>
      have ho2 := Option.some.inj ho
      clear ho
      subst ho2
      have e59 : a'.eval (.tmp 59) = .agg #[.int .i64 k, .slice af1 (doesV k fs []).length cf1] := hdep ⟨4, .data⟩ (by simp) rfl
      have g59 : (a'.tmps[59]?).getD undef = .agg #[.int .i64 k, .slice af1 (doesV k fs []).length cf1] := by rw [← Array.getD_eq_getD_getElem?]; exact e59
      have e60 : a'.eval (.tmp 60) = .agg #[.int .i64 k, .slice af3 (doesV k fs []).length cf3] := hdep ⟨5, .data⟩ (by simp) rfl
      have g60 : (a'.tmps[60]?).getD undef = .agg #[.int .i64 k, .slice af3 (doesV k fs []).length cf3] := by rw [← Array.getD_eq_getD_getElem?]; exact e60
      refine wpList_step fun K hK => ?_
      rw [if_pos hwant]
      refine Inv.wp_call 30 #[.agg #[.int .i64 k, .slice af1 (doesV k fs []).length cf1], .agg #[.int .i64 k, .slice af3 (doesV k fs []).length cf3]] (by simp only [execOp]; go_simp) (eqK k _ _ _ _ _ _ (hp_held H (by (repeat (first | exact List.Mem.head _ | apply List.Mem.tail)))) (hp_held H (by (repeat (first | exact List.Mem.head _ | apply List.Mem.tail)))) hF) ?_
      rintro e w2 ⟨rfl, ho⟩
      exact ⟨_, rfl, hK _ _ (hQ _ _ ho (Lib.hid (H.out.quiet ho)) rfl)⟩
    | 7, ho =>
      have ho2 := Option.some.inj ho
      clear ho
      subst ho2
      have e58 : a'.eval (.tmp 58) = .bool true := hdep ⟨3, .data⟩ (by simp) rfl
      have g58 : (a'.tmps[58]?).getD undef = .bool true := by rw [← Array.getD_eq_getD_getElem?]; exact e58
      have e61 : a'.eval (.tmp 61) = .bool true := hdep ⟨6, .data⟩ (by simp) rfl
      have g61 : (a'.tmps[61]?).getD undef = .bool true := by rw [← Array.getD_eq_getD_getElem?]; exact e61
      refine wpList_step fun K hK => ?_
      rw [if_pos hwant]
      exact Inv.wp_val (.bool true) (by simp only [execOp]; go_simp) (hK _ _ (hQ _ _ (Off.refl [] _) H rfl))
    | 8, ho =>
      have ho2 := Option.some.inj ho
      clear ho
      subst ho2
      have e62 : a'.eval (.tmp 62) = .bool true := hdep ⟨7, .data⟩ (by simp) rfl
      have g62 : (a'.tmps[62]?).getD undef = .bool true := by rw [← Array.getD_eq_getD_getElem?]; exact e62
      refine wpList_step fun K hK => ?_
      rw [if_pos hwant]
      exact Inv.wp_val (.bool true) (by simp only [execOp]; go_simp) (hK _ _ (hQ _ _ (Off.refl [] _) H rfl))
    | 9, ho =>
      have ho2 := Option.some.inj ho
      clear ho
      subst ho2
      have e11 : a'.eval (.tmp 11) = .pointer (some ⟨b11, 0, none⟩) := (hfr.old 11 (by kernel_rfl)).trans rfl
      have g11 : (a'.tmps[11]?).getD undef = .pointer (some ⟨b11, 0, none⟩) := by rw [← Array.getD_eq_getD_getElem?]; exact e11
      refine hpA_load tyshelf_Shelf_string__int_ H rfl e11 hwant (by (repeat (first | exact List.Mem.head _ | apply List.Mem.tail))) rfl rfl ?_
      exact hQ _ _ (Off.refl [] _) H rfl
    | 10, ho =>
      have ho2 := Option.some.inj ho
      clear ho
      subst ho2
      have e14 : a'.eval (.tmp 14) = .pointer (some ⟨b14, 0, none⟩) := (hfr.old 14 (by kernel_rfl)).trans rfl
      have g14 : (a'.tmps[14]?).getD undef = .pointer (some ⟨b14, 0, none⟩) := by rw [← Array.getD_eq_getD_getElem?]; exact e14
      refine hpA_load tyshelf_Shelf_string__int_ H rfl e14 hwant (by (repeat (first | exact List.Mem.head _ | apply List.Mem.tail))) rfl rfl ?_
      exact hQ _ _ (Off.refl [] _) H rfl
    | 11, ho =>
      have ho2 := Option.some.inj ho
      clear ho
      subst ho2
      have e2 : a'.eval (.tmp 2) = .slice sa ga.length sc := (hfr.old 2 (by kernel_rfl)).trans rfl
      have g2 : (a'.tmps[2]?).getD undef = .slice sa ga.length sc := by rw [← Array.getD_eq_getD_getElem?]; exact e2
      refine wpList_step fun K hK => ?_
      rw [if_pos hwant]
      exact Inv.wp_val (.slice sa ga.length sc) (by simp only [execOp]; go_simp) (hK _ _ (hQ _ _ (Off.refl [] _) H rfl))
    | 12, ho =>
      have ho2 := Option.some.inj ho
      clear ho
      subst ho2
      have e65 : a'.eval (.tmp 65) = .agg #[.int .i64 k, .slice af3 (doesV k fs []).length cf3] := hdep ⟨10, .data⟩ (by simp) rfl
      have g65 : (a'.tmps[65]?).getD undef = .agg #[.int .i64 k, .slice af3 (doesV k fs []).length cf3] := by rw [← Array.getD_eq_getD_getElem?]; exact e65
      have e66 : a'.eval (.tmp 66) = .slice sa ga.length sc := hdep ⟨11, .data⟩ (by simp) rfl
      have g66 : (a'.tmps[66]?).getD undef = .slice sa ga.length sc := by rw [← Array.getD_eq_getD_getElem?]; exact e66
      refine wpList_step fun K hK => ?_
      rw [if_pos hwant]
      refine Inv.wp_call 31 #[.agg #[.int .i64 k, .slice af3 (doesV k fs []).length cf3], .slice sa ga.length sc] (by simp only [execOp]; go_simp) (does_a k fs ga gb hl _ _ _ _ _ (hp_held H (by (repeat (first | exact List.Mem.head _ | apply List.Mem.tail)))) (hp_held H (by (repeat (first | exact List.Mem.head _ | apply List.Mem.tail))))) ?_
      rintro e w2 ⟨a7, c7, rfl, h7⟩
      exact ⟨_, rfl, hK _ _ (hQ _ _ h7.2.2 (Lib.hid (H.out.quiet h7.2.2)) ⟨a7, c7, rfl, h7.1⟩)⟩
    | 13, ho =>
      have ho2 := Option.some.inj ho
      clear ho
      subst ho2
      have e64 : a'.eval (.tmp 64) = .agg #[.int .i64 k, .slice aa1 (doesV k ga (doesV k fs [])).length ca1] := hdep ⟨9, .data⟩ (by simp) rfl
      have g64 : (a'.tmps[64]?).getD undef = .agg #[.int .i64 k, .slice aa1 (doesV k ga (doesV k fs [])).length ca1] := by rw [← Array.getD_eq_getD_getElem?]; exact e64
      obtain ⟨a7, c7, e67, s67⟩ : ∃ a7 c7, a'.eval (.tmp 67) = .agg #[.int .i64 k, .slice a7 (doesV k ga (doesV k fs [])).length c7] ∧ (rS a7 c7 2 ((doesV k ga (doesV k fs [])).map rowOf)).holds w' := hdep ⟨12, .data⟩ (by simp) rfl
      have g67 : (a'.tmps[67]?).getD undef = .agg #[.int .i64 k, .slice a7 (doesV k ga (doesV k fs [])).length c7] := by rw [← Array.getD_eq_getD_getElem?]; exact e67
      refine wpList_step fun K hK => ?_
      rw [if_pos hwant]
      refine Inv.wp_call 30 #[.agg #[.int .i64 k, .slice aa1 (doesV k ga (doesV k fs [])).length ca1], .agg #[.int .i64 k, .slice a7 (doesV k ga (doesV k fs [])).length c7]] (by simp only [execOp]; go_simp) (eqK k _ _ _ _ _ _ (hp_held H (by (repeat (first | exact List.Mem.head _ | apply List.Mem.tail)))) s67 hA) ?_
      rintro e w2 ⟨rfl, ho⟩
      exact ⟨_, rfl, hK _ _ (hQ _ _ ho (Lib.hid (H.out.quiet ho)) rfl)⟩
    | 14, ho =>
      have ho2 := Option.some.inj ho
      clear ho
      subst ho2
      have e63 : a'.eval (.tmp 63) = .bool true := hdep ⟨8, .data⟩ (by simp) rfl
      have g63 : (a'.tmps[63]?).getD undef = .bool true := by rw [← Array.getD_eq_getD_getElem?]; exact e63
      have e68 : a'.eval (.tmp 68) = .bool true := hdep ⟨13, .data⟩ (by simp) rfl
      have g68 : (a'.tmps[68]?).getD undef = .bool true := by rw [← Array.getD_eq_getD_getElem?]; exact e68
      refine wpList_step fun K hK => ?_
      rw [if_pos hwant]
      exact Inv.wp_val (.bool true) (by simp only [execOp]; go_simp) (hK _ _ (hQ _ _ (Off.refl [] _) H rfl))
    | 15, ho =>
      have ho2 := Option.some.inj ho
      clear ho
      subst ho2
      have e69 : a'.eval (.tmp 69) = .bool true := hdep ⟨14, .data⟩ (by simp) rfl
      have g69 : (a'.tmps[69]?).getD undef = .bool true := by rw [← Array.getD_eq_getD_getElem?]; exact e69
      refine wpList_step fun K hK => ?_
      rw [if_pos hwant]
      exact Inv.wp_val (.bool true) (by simp only [execOp]; go_simp) (hK _ _ (hQ _ _ (Off.refl [] _) H rfl))
    | _ + 16, ho => simp at ho
  · intro i o ho a' w' hdep hwant
    match i, ho with
    | 0, ho =>
      have ho2 := Option.some.inj ho
      clear ho
      subst ho2
      exact (skip_none hwant rfl).elim
    | 1, ho =>
      have ho2 := Option.some.inj ho
      clear ho
      subst ho2
      exact (skip_none hwant rfl).elim
    | 2, ho =>
      have ho2 := Option.some.inj ho
      clear ho
      subst ho2
      exact (skip_none hwant rfl).elim
    | 3, ho =>
      have ho2 := Option.some.inj ho
      clear ho
      subst ho2
      exact (skip_none hwant rfl).elim
    | 4, ho =>
      have ho2 := Option.some.inj ho
      clear ho
      subst ho2
      have eg : a'.tmps.getD 58 undef = .bool true := hdep ⟨3, .guard⟩ (by simp) rfl
      exact (skip_want hwant rfl (by kernel_rfl) eg).elim
    | 5, ho =>
      have ho2 := Option.some.inj ho
      clear ho
      subst ho2
      have eg : a'.tmps.getD 58 undef = .bool true := hdep ⟨3, .guard⟩ (by simp) rfl
      exact (skip_want hwant rfl (by kernel_rfl) eg).elim
    | 6, ho =>
      have ho2 := Option.some.inj ho
      clear ho
      subst ho2
      have eg : a'.tmps.getD 58 undef = .bool true := hdep ⟨3, .guard⟩ (by simp) rfl
      exact (skip_want hwant rfl (by kernel_rfl) eg).elim
    | 7, ho =>
      have ho2 := Option.some.inj ho
      clear ho
      subst ho2
      exact (skip_none hwant rfl).elim
    | 8, ho =>
      have ho2 := Option.some.inj ho
      clear ho
      subst ho2
      exact (skip_none hwant rfl).elim
    | 9, ho =>
      have ho2 := Option.some.inj ho
      clear ho
      subst ho2
      have eg : a'.tmps.getD 63 undef = .bool true := hdep ⟨8, .guard⟩ (by simp) rfl
      exact (skip_want hwant rfl (by kernel_rfl) eg).elim
    | 10, ho =>
      have ho2 := Option.some.inj ho
      clear ho
      subst ho2
      have eg : a'.tmps.getD 63 undef = .bool true := hdep ⟨8, .guard⟩ (by simp) rfl
      exact (skip_want hwant rfl (by kernel_rfl) eg).elim
    | 11, ho =>
      have ho2 := Option.some.inj ho
      clear ho
      subst ho2
      have eg : a'.tmps.getD 63 undef = .bool true := hdep ⟨8, .guard⟩ (by simp) rfl
      exact (skip_want hwant rfl (by kernel_rfl) eg).elim
    | 12, ho =>
      have ho2 := Option.some.inj ho
      clear ho
      subst ho2
      have eg : a'.tmps.getD 63 undef = .bool true := hdep ⟨8, .guard⟩ (by simp) rfl
      exact (skip_want hwant rfl (by kernel_rfl) eg).elim
    | 13, ho =>
      have ho2 := Option.some.inj ho
      clear ho
      subst ho2
      have eg : a'.tmps.getD 63 undef = .bool true := hdep ⟨8, .guard⟩ (by simp) rfl
      exact (skip_want hwant rfl (by kernel_rfl) eg).elim
    | 14, ho =>
      have ho2 := Option.some.inj ho
      clear ho
      subst ho2
      exact (skip_none hwant rfl).elim
    | 15, ho =>
      have ho2 := Option.some.inj ho
      clear ho
      subst ho2
      exact (skip_none hwant rfl).elim
    | _ + 16, ho => simp at ho
  · clear H
    intro vs w5 H hv
    have v0 : vs 0 = .agg #[.int .i64 k, .slice ab1 (doesV k gb (doesV k fs [])).length cb1] := hv 0 (by decide)
    have v1 : vs 1 = .agg #[.int .i64 k, .slice ab2 (doesV k gb (doesV k fs [])).length cb2] := hv 1 (by decide)
    have v2 : vs 2 = .bool true := hv 2 (by decide)
    have v3 : vs 3 = .bool true := hv 3 (by decide)
    have v4 : vs 4 = .agg #[.int .i64 k, .slice af1 (doesV k fs []).length cf1] := hv 4 (by decide)
    have v5 : vs 5 = .agg #[.int .i64 k, .slice af3 (doesV k fs []).length cf3] := hv 5 (by decide)
    have v6 : vs 6 = .bool true := hv 6 (by decide)
    have v7 : vs 7 = .bool true := hv 7 (by decide)
    have v8 : vs 8 = .bool true := hv 8 (by decide)
    have v9 : vs 9 = .agg #[.int .i64 k, .slice aa1 (doesV k ga (doesV k fs [])).length ca1] := hv 9 (by decide)
    have v10 : vs 10 = .agg #[.int .i64 k, .slice af3 (doesV k fs []).length cf3] := hv 10 (by decide)
    have v11 : vs 11 = .slice sa ga.length sc := hv 11 (by decide)
    obtain ⟨a7, c7, v12, s12⟩ : ∃ a7 c7, vs 12 = .agg #[.int .i64 k, .slice a7 (doesV k ga (doesV k fs [])).length c7] ∧ (rS a7 c7 2 ((doesV k ga (doesV k fs [])).map rowOf)).holds w5 := hv 12 (by decide)
    have v13 : vs 13 = .bool true := hv 13 (by decide)
    have v14 : vs 14 = .bool true := hv 14 (by decide)
    have v15 : vs 15 = .bool true := hv 15 (by decide)
    clear hv
    simp only [List.size_toArray, List.length_cons, List.length_nil, Nat.reduceAdd, Inv.putAll, Inv.dstAt, List.getElem?_toArray, List.getElem?_cons_zero, List.getElem?_cons_succ, Option.bind_some, Act.put, List.setIfInBounds_toArray, List.set_cons_zero, List.set_cons_succ, v0, v1, v2, v3, v4, v5, v6, v7, v8, v9, v10, v11, v12, v13, v14, v15]
    clear v0 v1 v2 v3 v4 v5 v6 v7 v8 v9 v10 v11 v12 v13 v14 v15
    go_wp2_with fail
    go_ret
    exact ⟨rfl, H.out.off⟩
end Go.Proofs.Ytfhhfmkfkoemjaa.Si6
