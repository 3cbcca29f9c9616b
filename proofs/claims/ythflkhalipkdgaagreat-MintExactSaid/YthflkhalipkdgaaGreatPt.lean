/- Layer 14: the parts of a request, and their functions. -/
import Derived.Test.YthflkhalipkdgaaGreatProg
import Derived.Below
import Derived.WalkKit
import Derived.KernelRfl
import Derived.RowKit3
import Derived.Deep.LoopGhost
import Derived.Deep.QuietTactic
import Derived.BigQuiet
import Derived.WideLaws
import Derived.Deep.DeepCutAuto
import Derived.Deep.CutBlock
import Derived.Lib.Hide
import Derived.Laws.BitsLemmas
import Derived.Laws.Bits64
import Derived.Laws.BitsAllLaws
import Derived.IntWalk
import Derived.Outline
import Derived.WalkSpells
import Derived.Test.YthflkhalipkdgaaGreatGA
import Derived.Test.YthflkhalipkdgaaGreatRq
namespace Go.Proofs.YthflkhalipkdgaaGreat.Ms
set_option maxRecDepth 20000
set_option linter.unusedVariables false
set_option linter.unusedSimpArgs false
open Go.RowKit Go.Proofs.YthflkhalipkdgaaGreat.Mem Go.Proofs.YthflkhalipkdgaaGreat.Pk Go.Proofs.YthflkhalipkdgaaGreat.Ca

/-- a part of a request -/
inductive Part | num (wd off : Nat) (chk : Chk) | token | key
/-- its two functions, as memory holds them, in these blocks -/
def PartF (w : World) (F : List Nat) (fp fg : Value) : Part → Prop
  | .num wd off chk => isOff off = true ∧ wide wd = true ∧ wd ≤ 4 ∧ ∃ bo bc bw, fp = .func (.func 100) #[] #[.pointer (some ⟨bo, 0, none⟩), .pointer (some ⟨bc, 0, none⟩), .pointer (some ⟨bw, 0, none⟩)] ∧ fg = .func (.func 101) #[] #[.pointer (some ⟨bw, 0, none⟩), .pointer (some ⟨bo, 0, none⟩)] ∧ bo ∈ F ∧ bc ∈ F ∧ bw ∈ F ∧ Blk w bo #[.func (.func (offFn off)) #[] #[]] 138 ∧ Blk w bc #[.func (.func chk.fn) #[] #[]] 110 ∧ Blk w bw #[.int .i64 wd] 3
  | .token => fp = .func (.func 102) #[] #[] ∧ fg = .func (.func 103) #[] #[]
  | .key => fp = .func (.func 104) #[] #[] ∧ fg = .func (.func 105) #[] #[]
theorem PartF.same {w w' : World} {F : List Nat} {fp fg : Value} {p : Part} (h : PartF w F fp fg p) (hs : ∀ k ∈ F, w'.heap[k]? = w.heap[k]?) : PartF w' F fp fg p := by
  cases p with
  | num wd off chk =>
    obtain ⟨h0, h1, h2, bo, bc, bw, e1, e2, m1, m2, m3, k1, k2, k3⟩ := h
    refine ⟨h0, h1, h2, bo, bc, bw, e1, e2, m1, m2, m3, ?_, ?_, ?_⟩
    · unfold Blk at *; rw [hs bo m1]; exact k1
    · unfold Blk at *; rw [hs bc m2]; exact k2
    · unfold Blk at *; rw [hs bw m3]; exact k3
  | token => exact h
  | key => exact h
theorem PartF.mono {w : World} {F G : List Nat} {fp fg : Value} {p : Part} (h : PartF w F fp fg p) (hs : ∀ k ∈ F, k ∈ G) : PartF w G fp fg p := by
  cases p with
  | num wd off chk =>
    obtain ⟨h0, h1, h2, bo, bc, bw, e1, e2, m1, m2, m3, k⟩ := h
    exact ⟨h0, h1, h2, bo, bc, bw, e1, e2, hs _ m1, hs _ m2, hs _ m3, k⟩
  | token => exact h
  | key => exact h
def rPart (F : List Nat) (fp fg : Value) (p : Part) : Res := ⟨F, fun w => PartF w F fp fg p, fun _ _ hs h => h.same hs, false⟩
def Made (w : World) (p : Part) (e : Ending) (w' : World) : Prop := ∃ fp fg F, e = .returned (.agg #[fp, fg]) ∧ PartF w' F fp fg p ∧ (∀ k ∈ F, w.heap.size ≤ k ∧ k < w'.heap.size) ∧ Off [] w w'
set_option maxHeartbeats 1600000 in
theorem numberC (wd off : Nat) (hoff : isOff off = true) (hw : wide wd = true) (hw4 : wd ≤ 4) (chk : Chk) (w : World) : Calls Tryz.prog 81 #[.int .i64 wd, .func (.func (offFn off)) #[] #[], .func (.func chk.fn) #[] #[]] w (Made w (.num wd off chk)) := by
  have H := Lib.hid (Hp.start [] w)
  generalize hf : offFn off = fo
  generalize hc : chk.fn = fc
  have HF := Lib.hid hf
  have HC := Lib.hid hc
  clear hf hc
  go_enter Tryz.func81, Tryz.ntmps81
  go_wp2_with (first
    | ((with_reducible apply g_mem); (focus (exact rfl)); first
      | ((with_reducible apply hpN_box1 3 3 H); (focus (exact rfl)); (focus (exact rfl)); (focus (exact rfl)); (focus (first | (go_simp; exact rfl) | exact rfl)); (focus (exact rfl)); intro w5 b3 H5; clear H; have H := H5; clear H5)
      | ((with_reducible apply hpN_box1 138 4 H); (focus (exact rfl)); (focus (exact rfl)); (focus (exact rfl)); (focus (first | (go_simp; exact rfl) | exact rfl)); (focus (exact rfl)); intro w5 b4 H5; clear H; have H := H5; clear H5)
      | ((with_reducible apply hpN_box1 110 5 H); (focus (exact rfl)); (focus (exact rfl)); (focus (exact rfl)); (focus (first | (go_simp; exact rfl) | exact rfl)); (focus (exact rfl)); intro w5 b5 H5; clear H; have H := H5; clear H5)
      | ((with_reducible apply hpN_alloc tymsg_part 6 H); (focus (exact rfl)); (focus (exact rfl)); (focus (exact rfl)); intro w5 b6 H5; clear H; have H := H5; clear H5)
      | ((with_reducible apply hpA_store tymsg_part H); (focus (exact rfl)); (focus (exact rfl)); (focus (exact rfl)); (focus (exact rfl)); (focus (exact rfl)); (focus (repeat (first | apply Put.head | apply Put.tail))); (focus (first | (simp; done) | (simp [Value.oneCell']; done))); (focus (first | (simp; done) | (simp [Value.oneCell']; done))); (focus ((try simp only [spl]); exact rfl)); (focus (exact rfl)); intro w5 H5; clear H; have H := H5; clear H5)))
  (try simp only [Exit.inBlock, Exit.then])
  apply hp_ret_c tymsg_part H
  · exact rfl
  · exact rfl
  · exact rfl
  · (repeat (first | exact List.Mem.head _ | apply List.Mem.tail))
  · exact rfl
  · refine ⟨_, _, [b4, b5, b3], rfl, ⟨hoff, hw, hw4, b4, b5, b3, rfl, rfl, by simp, by simp, by simp, ?_, ?_, ?_⟩, ?_, H.out.off⟩
    · rw [HF.out]; exact H.out.blk 2 rfl
    · rw [HC.out]; exact H.out.blk 1 rfl
    · exact H.out.blk 3 rfl
    · intro k hk
      have n2 := H.out.new _ (List.mem_of_getElem? (i := 2) rfl) b4 (by simp [rB])
      have n1 := H.out.new _ (List.mem_of_getElem? (i := 1) rfl) b5 (by simp [rB])
      have n3 := H.out.new _ (List.mem_of_getElem? (i := 3) rfl) b3 (by simp [rB])
      have l2 := H.out.lt _ (List.mem_of_getElem? (i := 2) rfl) b4 (by simp [rB])
      have l1 := H.out.lt _ (List.mem_of_getElem? (i := 1) rfl) b5 (by simp [rB])
      have l3 := H.out.lt _ (List.mem_of_getElem? (i := 3) rfl) b3 (by simp [rB])
      simp only [List.not_mem_nil, false_or] at n1 n2 n3
      simp only [List.mem_cons, List.not_mem_nil, or_false] at hk
      rcases hk with rfl | rfl | rfl <;> exact ⟨by assumption, by assumption⟩
theorem tokenC (w : World) : Calls Tryz.prog 87 #[] w (Made w .token) := by
  have H := Lib.hid (Hp.start [] w)
  go_enter Tryz.func87, Tryz.ntmps87
  go_wp2_with (first
    | ((with_reducible apply g_mem); (focus (exact rfl)); first
      | ((with_reducible apply hpN_alloc tymsg_part 0 H); (focus (exact rfl)); (focus (exact rfl)); (focus (exact rfl)); intro w5 b0 H5; clear H; have H := H5; clear H5)
      | ((with_reducible apply hpA_store tymsg_part H); (focus (exact rfl)); (focus (exact rfl)); (focus (exact rfl)); (focus (exact rfl)); (focus (exact rfl)); (focus (repeat (first | apply Put.head | apply Put.tail))); (focus (first | (simp; done) | (simp [Value.oneCell']; done))); (focus (first | (simp; done) | (simp [Value.oneCell']; done))); (focus ((try simp only [spl]); exact rfl)); (focus (exact rfl)); intro w5 H5; clear H; have H := H5; clear H5)))
  (try simp only [Exit.inBlock, Exit.then])
  apply hp_ret_c tymsg_part H
  · exact rfl
  · exact rfl
  · exact rfl
  · (repeat (first | exact List.Mem.head _ | apply List.Mem.tail))
  · exact rfl
  · exact ⟨_, _, [], rfl, ⟨rfl, rfl⟩, by simp, H.out.off⟩
theorem keyC (w : World) : Calls Tryz.prog 88 #[] w (Made w .key) := by
  have H := Lib.hid (Hp.start [] w)
  go_enter Tryz.func88, Tryz.ntmps88
  go_wp2_with (first
    | ((with_reducible apply g_mem); (focus (exact rfl)); first
      | ((with_reducible apply hpN_alloc tymsg_part 0 H); (focus (exact rfl)); (focus (exact rfl)); (focus (exact rfl)); intro w5 b0 H5; clear H; have H := H5; clear H5)
      | ((with_reducible apply hpA_store tymsg_part H); (focus (exact rfl)); (focus (exact rfl)); (focus (exact rfl)); (focus (exact rfl)); (focus (exact rfl)); (focus (repeat (first | apply Put.head | apply Put.tail))); (focus (first | (simp; done) | (simp [Value.oneCell']; done))); (focus (first | (simp; done) | (simp [Value.oneCell']; done))); (focus ((try simp only [spl]); exact rfl)); (focus (exact rfl)); intro w5 H5; clear H; have H := H5; clear H5)))
  (try simp only [Exit.inBlock, Exit.then])
  apply hp_ret_c tymsg_part H
  · exact rfl
  · exact rfl
  · exact rfl
  · (repeat (first | exact List.Mem.head _ | apply List.Mem.tail))
  · exact rfl
  · exact ⟨_, _, [], rfl, ⟨rfl, rfl⟩, by simp, H.out.off⟩
theorem number_who (w : World) : Calls Tryz.prog 81 #[.int .i64 4, .func (.func 82) #[] #[], .func (.func 83) #[] #[]] w (Made w (.num 4 2 .some)) := numberC 4 2 rfl rfl (by omega) .some w
theorem number_id (w : World) : Calls Tryz.prog 81 #[.int .i64 4, .func (.func 84) #[] #[], .func (.func 73) #[] #[]] w (Made w (.num 4 14 .count)) := numberC 4 14 rfl rfl (by omega) .count w
theorem number_role (w : World) : Calls Tryz.prog 81 #[.int .i64 1, .func (.func 85) #[] #[], .func (.func 86) #[] #[]] w (Made w (.num 1 3 .whole)) := numberC 1 3 rfl rfl (by omega) .whole w
theorem number_fkind (w : World) : Calls Tryz.prog 81 #[.int .i64 1, .func (.func 90) #[] #[], .func (.func 86) #[] #[]] w (Made w (.num 1 17 .whole)) := numberC 1 17 rfl rfl (by omega) .whole w
theorem number_fn (w : World) : Calls Tryz.prog 81 #[.int .i64 4, .func (.func 91) #[] #[], .func (.func 73) #[] #[]] w (Made w (.num 4 18 .count)) := numberC 4 18 rfl rfl (by omega) .count w
theorem number_car (w : World) : Calls Tryz.prog 81 #[.int .i64 1, .func (.func 92) #[] #[], .func (.func 86) #[] #[]] w (Made w (.num 1 15 .whole)) := numberC 1 15 rfl rfl (by omega) .whole w
theorem number_mode (w : World) : Calls Tryz.prog 81 #[.int .i64 1, .func (.func 93) #[] #[], .func (.func 86) #[] #[]] w (Made w (.num 1 16 .whole)) := numberC 1 16 rfl rfl (by omega) .whole w
theorem number_ckind (w : World) : Calls Tryz.prog 81 #[.int .i64 1, .func (.func 106) #[] #[], .func (.func 86) #[] #[]] w (Made w (.num 1 7 .whole)) := numberC 1 7 rfl rfl (by omega) .whole w
theorem number_csrc (w : World) : Calls Tryz.prog 81 #[.int .i64 1, .func (.func 107) #[] #[], .func (.func 86) #[] #[]] w (Made w (.num 1 8 .whole)) := numberC 1 8 rfl rfl (by omega) .whole w
theorem number_cdst (w : World) : Calls Tryz.prog 81 #[.int .i64 1, .func (.func 108) #[] #[], .func (.func 86) #[] #[]] w (Made w (.num 1 9 .whole)) := numberC 1 9 rfl rfl (by omega) .whole w
theorem number_ccar (w : World) : Calls Tryz.prog 81 #[.int .i64 1, .func (.func 109) #[] #[], .func (.func 86) #[] #[]] w (Made w (.num 1 10 .whole)) := numberC 1 10 rfl rfl (by omega) .whole w
end Go.Proofs.YthflkhalipkdgaaGreat.Ms
