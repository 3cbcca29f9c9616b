/- Layer 6: awake. -/
import Derived.Test.YtfhhfmkfkoemjaaProg
import Derived.Below
import Derived.WalkKit
import Derived.KernelRfl
import Derived.RowKit3
import Derived.Deep.LoopGhost
import Derived.Deep.QuietTactic
import Derived.BigQuiet
import Derived.WideLaws
import Derived.Deep.DeepCutAuto
import Derived.Deep.CutBlock
import Derived.Lib.Hide
import Derived.Laws.BitsLemmas
import Derived.Laws.Bits64
import Derived.Laws.BitsAllLaws
import Derived.IntWalk
import Derived.Outline
import Derived.WalkSpells
import Derived.Test.YtfhhfmkfkoemjaaMem
import Derived.Test.YtfhhfmkfkoemjaaDo6
namespace Go.Proofs.Ytfhhfmkfkoemjaa.Si6
set_option linter.unusedVariables false
set_option linter.unusedSimpArgs false
open Go.RowKit Go.Proofs.Ytfhhfmkfkoemjaa.Mem

theorem tyshelf_Shelf_int__int_ : TyI Try.prog 118 2 true [.int .i64 0, .slice none 0 0] := ⟨by kernel_rfl, by kernel_rfl, by kernel_rfl⟩
set_option maxRecDepth 20000
set_option maxHeartbeats 16000000
theorem hp_none {S : List Nat} {w0 w : World} {R : List Res} (H : Hid (Hp S w0 w R)) (k : Nat) (hk : 0 < k) : Hid (Hp S w0 w (rS none 0 k [] :: R)) :=
  hp_got H (Off.refl [] w) (Rs := []) ⟨.inl ⟨rfl, rfl⟩, Wf.nil k⟩ hk (From.none w [] 0 k []) (by simp)
abbrev sK : ByteArray := ⟨#[107]⟩
abbrev sL : ByteArray := ⟨#[108]⟩
theorem ltD (x y : KeyV) : ltK x y = Op.bytesLess x.data.toList y.data.toList := by unfold ltK; rw [ByteArray.toList_eq, ByteArray.toList_eq]
theorem cmpD (x y : KeyV) : cmpV x y = if Op.bytesLess x.data.toList y.data.toList = true then -1 else if (!(Op.bytesLess x.data.toList y.data.toList || x.data.toList == y.data.toList)) = true then 1 else 0 := by
  unfold cmpV
  rw [ltD, ByteArray.toList_eq, ByteArray.toList_eq]
theorem aw1 : withV 1 sK 5 [] = ([(sK, 5)], true) := by decide
theorem ap1 : posV sL [(sK, 5)] = 1 := by unfold posV; simp only [ltD]; decide
theorem ai1 : isV sL [(sK, 5)] = false := by unfold isV; rw [ap1]; rfl
theorem ap2 (n : Int) : posV sK [(sK, n)] = 0 := by unfold posV; simp only [ltD]; rfl
theorem ai2 (n : Int) : isV sK [(sK, n)] = true := by unfold isV; rw [ap2]; simp only [List.getElem?_cons_zero, cmpD]; rfl
theorem aw2 : withV 1 sL 6 [(sK, 5)] = ([(sK, 5)], false) := by unfold withV; rw [ai1, ap1]; rfl
theorem aw3 : withV 1 sK 7 [(sK, 5)] = ([(sK, 7)], true) := by unfold withV; rw [ai2, ap2]; rfl
theorem aw4 : getV sK [(sK, 7)] = (7, true) := by unfold getV; rw [ai2, ap2]; rfl
theorem sorted1 (p : PairV) : Sorted [p] := List.pairwise_singleton _ _
theorem newI (room : Int) (w : World) (h : room = 0) : Calls Try.prog 68 #[.int .i64 room] w fun e w' => e = .returned (.agg #[.int .i64 0, .slice none 0 0]) ∧ Off [] w w' := by
  subst h
  have H := Lib.hid (Hp.start [] w)
  go_enter Try.func68, Try.ntmps68
  go_wp2_with (first
    | ((with_reducible apply g_mem); (focus (exact rfl)); first
      | ((with_reducible apply hpN_alloc tyshelf_Shelf_int__int_ 2 H); (focus (exact rfl)); (focus (exact rfl)); (focus (exact rfl)); intro w5 b2 H5; clear H; have H := H5; clear H5)
      | ((with_reducible apply hpA_store tyshelf_Shelf_int__int_ H); (focus (exact rfl)); (focus (exact rfl)); (focus (exact rfl)); (focus (exact rfl)); (focus (exact rfl)); (focus (repeat (first | apply Put.head | apply Put.tail))); (focus (first | (simp; done) | (simp [Value.oneCell']; done))); (focus (first | (simp; done) | (simp [Value.oneCell']; done))); (focus ((try simp only [spl]); exact rfl)); (focus (exact rfl)); intro w5 H5; clear H; have H := H5; clear H5)))
  (try simp only [Exit.inBlock, Exit.then])
  apply hp_ret_c tyshelf_Shelf_int__int_ H
  · exact rfl
  · exact rfl
  · exact rfl
  · (repeat (first | exact List.Mem.head _ | apply List.Mem.tail))
  · exact rfl
  · exact ⟨rfl, H.out.off⟩
theorem roomI (room : Int) (s : Value) (w : World) : Calls Try.prog 69 #[.agg #[.int .i64 room, s]] w fun e w' => e = .returned (.int .i64 room) ∧ Off [] w w' := by
  have H := Lib.hid (Hp.start [] w)
  go_enter Try.func69, Try.ntmps69
  go_wp2_with (first
    | ((with_reducible apply g_mem); (focus (exact rfl)); first
      | ((with_reducible apply hpN_box 118 1 H); (focus (exact rfl)); (focus (exact rfl)); (focus (exact rfl)); (focus (exact rfl)); (focus (exact rfl)); intro w5 b1 H5; clear H; have H := H5; clear H5)
      | ((with_reducible apply hpA_load1 tyint H); (focus (exact rfl)); (focus (exact rfl)); (focus (first | (exact rfl) | (simp [Region.wanted]; done) | (simp only [Region.wanted]; go_simp; done))); (focus (repeat (first | exact List.Mem.head _ | apply List.Mem.tail))); (focus ((try simp only [List.getElem?_cons_zero, List.getElem?_cons_succ]); exact rfl)))))
  go_ret
  exact ⟨rfl, H.out.off⟩
theorem awW1 (a : Option Addr) (c : Nat) (w : World) (h : (rS a c 2 (([] : List PairV).map rowOf)).holds w) : Calls Try.prog 27 #[.agg #[.int .i64 1, .slice a 0 c], .string sK, .int .i64 5] w fun e w' => ∃ a' c', e = .returned (.tuple #[.agg #[.int .i64 1, .slice a' 1 c'], .bool true]) ∧ Gives w w' [rS a c 2 (([] : List PairV).map rowOf)] a' c' [(sK, 5)] := by
  have := withC 1 a c [] sK 5 w h List.Pairwise.nil (by decide)
  rw [aw1] at this
  exact this
theorem awW2 (a : Option Addr) (c : Nat) (w : World) (h : (rS a c 2 (([(sK, 5)] : List PairV).map rowOf)).holds w) : Calls Try.prog 27 #[.agg #[.int .i64 1, .slice a 1 c], .string sL, .int .i64 6] w fun e w' => ∃ a' c', e = .returned (.tuple #[.agg #[.int .i64 1, .slice a' 1 c'], .bool false]) ∧ Gives w w' [rS a c 2 (([(sK, 5)] : List PairV).map rowOf)] a' c' [(sK, 5)] := by
  have := withC 1 a c [(sK, 5)] sL 6 w h (sorted1 _) (by decide)
  rw [aw2] at this
  exact this
theorem awW3 (a : Option Addr) (c : Nat) (w : World) (h : (rS a c 2 (([(sK, 5)] : List PairV).map rowOf)).holds w) : Calls Try.prog 27 #[.agg #[.int .i64 1, .slice a 1 c], .string sK, .int .i64 7] w fun e w' => ∃ a' c', e = .returned (.tuple #[.agg #[.int .i64 1, .slice a' 1 c'], .bool true]) ∧ Gives w w' [rS a c 2 (([(sK, 5)] : List PairV).map rowOf)] a' c' [(sK, 7)] := by
  have := withC 1 a c [(sK, 5)] sK 7 w h (sorted1 _) (by decide)
  rw [aw3] at this
  exact this
theorem awG (a : Option Addr) (c : Nat) (w : World) (h : (rS a c 2 (([(sK, 7)] : List PairV).map rowOf)).holds w) : Calls Try.prog 29 #[.agg #[.int .i64 1, .slice a 1 c], .string sK] w fun e w' => e = .returned (.tuple #[.int .i64 7, .bool true]) ∧ Off [] w w' := by
  have := getC 1 a c [(sK, 7)] sK w h (sorted1 _) (by decide)
  rw [aw4] at this
  exact this
theorem awE (a b : Option Addr) (c d : Nat) (w : World) (h : (rS a c 2 (([(sK, 5)] : List PairV).map rowOf)).holds w) (h2 : (rS b d 2 (([(sK, 5)] : List PairV).map rowOf)).holds w) : Calls Try.prog 30 #[.agg #[.int .i64 1, .slice a 1 c], .agg #[.int .i64 1, .slice b 1 d]] w fun e w' => e = .returned (.bool true) ∧ Off [] w w' :=
  equalC 1 1 a b c d [(sK, 5)] [(sK, 5)] w h h2 (by decide) (by decide)
theorem awake6 (w : World) : Calls Try.prog 25 #[] w fun e w' => e = .returned (.bool true) ∧ Off [] w w' := by
  have H := Lib.hid (Hp.start [] w)
  go_enter Try.func25, Try.ntmps25
  go_wp2_with (first
    | ((with_reducible apply g_mem); (focus (exact rfl)); first
      | ((with_reducible apply hpN_alloc tyshelf_Shelf_string__int_ 1 H); (focus (exact rfl)); (focus (exact rfl)); (focus (exact rfl)); intro w5 b1 H5; clear H; have H := H5; clear H5)
      | ((with_reducible apply hpA_store tyshelf_Shelf_string__int_ H); (focus (exact rfl)); (focus (exact rfl)); (focus (exact rfl)); (focus (exact rfl)); (focus (exact rfl)); (focus (repeat (first | apply Put.head | apply Put.tail))); (focus (first | (simp; done) | (simp [Value.oneCell']; done))); (focus (first | (simp; done) | (simp [Value.oneCell']; done))); (focus ((try simp only [spl]); exact rfl)); (focus (exact rfl)); intro w5 H5; clear H; have H := H5; clear H5)
      | ((with_reducible apply hpA_load tyshelf_Shelf_string__int_ H); (focus (exact rfl)); (focus (exact rfl)); (focus (first | (exact rfl) | (simp [Region.wanted]; done) | (simp only [Region.wanted]; go_simp; done))); (focus (repeat (first | exact List.Mem.head _ | apply List.Mem.tail))); (focus ((try simp only [List.drop_zero, List.drop_succ_cons, List.take_succ_cons, List.take_zero]); exact rfl)); (focus (exact rfl)))
      | ((with_reducible apply hpN_alloc tyshelf_Shelf_string__int_ 2 H); (focus (exact rfl)); (focus (exact rfl)); (focus (exact rfl)); intro w5 b2 H5; clear H; have H := H5; clear H5)
      | ((with_reducible apply hpN_alloc tyshelf_Shelf_string__int_ 4 H); (focus (exact rfl)); (focus (exact rfl)); (focus (exact rfl)); intro w5 b4 H5; clear H; have H := H5; clear H5)
      | ((with_reducible apply hpN_alloc tyshelf_Shelf_string__int_ 6 H); (focus (exact rfl)); (focus (exact rfl)); (focus (exact rfl)); intro w5 b6 H5; clear H; have H := H5; clear H5))
    | (go_at_call 26; (with_reducible refine (newC 1 _).mono ?_); rintro e w5 ⟨rfl, ho⟩; have H5 := hp_none (Lib.hid (H.out.quiet ho)) 2 (by decide); clear H ho; have H := H5; clear H5)
    | (go_at_call 27; (with_reducible refine (awW1 _ _ _ (hp_held H (by simp))).mono ?_); rintro e w5 ⟨a1, c1, rfl, h5⟩; have hsz := H.out.off.size; have H5 := hp_got H h5.2.2 h5.1 (by decide) h5.2.1 (by simp); clear H; have H := H5; clear H5)
    | (go_at_call 27; (with_reducible refine (awW2 _ _ _ (hp_held H (by simp))).mono ?_); rintro e w5 ⟨a2, c2, rfl, h5⟩; have hsz := H.out.off.size; have H5 := hp_got H h5.2.2 h5.1 (by decide) h5.2.1 (by simp); clear H; have H := H5; clear H5)
    | (go_at_call 27; (with_reducible refine (awW3 _ _ _ (hp_held H (by simp))).mono ?_); rintro e w5 ⟨a3, c3, rfl, h5⟩; have hsz := H.out.off.size; have H5 := hp_got H h5.2.2 h5.1 (by decide) h5.2.1 (by simp); clear H; have H := H5; clear H5)
    | (go_at_call 29; (with_reducible refine (awG _ _ _ (hp_held H (by simp))).mono ?_); rintro e w5 ⟨rfl, ho⟩; have H5 := Lib.hid (H.out.quiet ho); clear H ho; have H := H5; clear H5)
    | (go_at_call 30; (with_reducible refine (awE _ _ _ _ _ (hp_held H (by simp)) (hp_held H (by simp))).mono ?_); rintro e w5 ⟨rfl, ho⟩; have H5 := Lib.hid (H.out.quiet ho); clear H ho; have H := H5; clear H5)
    | (go_at_call 35; (with_reducible refine (lenC _ _ _ _ _).mono ?_); rintro e w5 ⟨rfl, ho⟩; have H5 := Lib.hid (H.out.quiet ho); clear H ho; have H := H5; clear H5)
    | (go_at_call 43; (with_reducible refine (roomC _ _ _).mono ?_); rintro e w5 ⟨rfl, ho⟩; have H5 := Lib.hid (H.out.quiet ho); clear H ho; have H := H5; clear H5)
    | (go_at_call 68; (with_reducible refine (newI 0 _ rfl).mono ?_); rintro e w5 ⟨rfl, ho⟩; have H5 := Lib.hid (H.out.quiet ho); clear H ho; have H := H5; clear H5)
    | (go_at_call 69; (with_reducible refine (roomI _ _ _).mono ?_); rintro e w5 ⟨rfl, ho⟩; have H5 := Lib.hid (H.out.quiet ho); clear H ho; have H := H5; clear H5))
  go_ret
  exact ⟨rfl, H.out.off⟩
end Go.Proofs.Ytfhhfmkfkoemjaa.Si6
