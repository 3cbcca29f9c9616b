/- Layer 15: counts and calls that are written. -/
import Derived.Test.YtloemjhhedkhiaaProg
import Derived.Below
import Derived.WalkKit
import Derived.KernelRfl
import Derived.RowKit3
import Derived.Deep.LoopGhost
import Derived.Deep.QuietTactic
import Derived.BigQuiet
import Derived.WideLaws
import Derived.Deep.DeepCutAuto
import Derived.Deep.CutBlock
import Derived.Lib.Hide
import Derived.Laws.BitsLemmas
import Derived.Laws.Bits64
import Derived.Laws.BitsAllLaws
import Derived.IntWalk
import Derived.Outline
import Derived.WalkSpells
import Derived.Test.YtloemjhhedkhiaaMem
import Derived.Test.YtloemjhhedkhiaaNw0
namespace Go.Proofs.Ytloemjhhedkhiaa.Nt
open Go.RowKit Go.Proofs.Ytloemjhhedkhiaa.Mem Go.Proofs.Ytloemjhhedkhiaa.Pk Go.Proofs.Ytloemjhhedkhiaa.Reg Go.Proofs.Ytloemjhhedkhiaa.Wk
set_option linter.unusedVariables false
set_option linter.unusedSimpArgs false

theorem hp_oldKS {S : List Nat} {w0 w : World} {R : List Res} {b : Nat} {t : TypeId} {cs : List Value} (H : Hid (Hp S w0 w R)) (h : Blk w0 b cs.toArray t) (hb : b ∉ S) : Hid (Hp S w0 w (rK b t cs :: R)) := by
  have hl := h.lt
  refine Lib.hid (H.out.share _ (Off.refl [] w) (H.out.off.blk h hb) rfl fun k hk => ?_)
  have hk' : k = b := by simpa [rK, Res.still, rB] using hk
  subst hk'
  exact ⟨Nat.lt_of_lt_of_le hl H.out.off.size, .inr (.inl ⟨hl, hb⟩)⟩
theorem cnts_yes {ns : List Int} (h : ns.any bigB = true) : cntsV ns = ([], false) := by unfold cntsV; rw [if_pos h]
theorem cnts_no {ns : List Int} (h : ns.any bigB = false) : cntsV ns = encs 4 ns := by unfold cntsV; rw [if_neg (by rw [h]; decide)]
theorem hp_held2 {S : List Nat} {w0 w : World} {R : List Res} {b : Nat} {t : TypeId} {cs : List Value} (H : Hid (Hp S w0 w R)) (h : rK b t cs ∈ R) : Blk w b cs.toArray t := H.out.holds _ h
def tab_countsW : Wk.Tab := []
theorem p_countsW {ops : Array Oper} {rest : List Oper} {o : Oper} {w0 : World} {Q : Exit → Act → World → Prop} {S : List Nat} {R : List Res} {K K' : Wk.Env} {N : Nat} (h : Wk.stp tab_countsW N ops K o = some K') (n : Wk.Wk N S w0 K' R (wpList Try.prog ops Q rest)) : Wk.Wk N S w0 K R (wpList Try.prog ops Q (o :: rest)) := Wk.wP (T := tab_countsW) (by kernel_rfl) h n
set_option maxHeartbeats 16000000 in
set_option maxRecDepth 20000 in
theorem countsW (b : Nat) (F : List Nat) (m : Nat) (l : List Nat) (g : Nat) (c : Nat) (ns : List Int) (w : World) (hO : (rOut b F m l).holds w) (hF : ∀ k ∈ F, k < w.heap.size) (hg : Blk w g (ns.map (Value.int .i64)).toArray 3) (hm : m ≤ 1000000000) (hl : ns.length ≤ 1000000) (hl2 : ns.length ≤ 65536) (hgF : g ∉ F) : Calls Try.prog 47 #[.pointer (some ⟨b, 0, none⟩), .slice (some ⟨g, 0, none⟩) ns.length c] w fun e w' => e = .returned (.bool (cntsV ns).2) ∧ Puts b F (m + 8 * ns.length) (l ++ (cntsV ns).1) w w' := by
 have H := Lib.hid (Hp.start [] w)
 have H := hp_wr hO hF
 have H := hp_oldKS H hg hgF
 clear hO hg
 refine wStart (args := [.pointer (some ⟨b, 0, none⟩), .slice (some ⟨g, 0, none⟩) ns.length c]) Try.func47 rfl rfl rfl H ?_
 clear H
 show Wk 13 _ _ [(0, .pointer (some ⟨b, 0, none⟩)), (1, .slice (some ⟨g, 0, none⟩) ns.length c)] _ _
 refine wSeqK fun KK1 hK1 => ?_
 refine wReg ?_
 refine p_countsW rfl ?_
 refine wN ?_
 refine tN (wKK hK1 ?_)
 refine wSeqK fun KK2 hK2 => ?_
 rcases Bool.eq_false_or_eq_true (ns.any bigB) with y1 | y1
 · skip
   refine wReg ?_
   refine p_countsW rfl ?_
   refine wQ (l := [.slice (some ⟨g, 0, none⟩) ns.length c, .func (.func 78) #[] #[]]) Try.func77 rfl (by kernel_rfl) (.bool true) (fun wc H => by have h := containsC (some ⟨g, 0, none⟩) c ns wc (rS_blk (hp_held2 H (by (repeat (first | exact List.Mem.head _ | apply List.Mem.tail))))) hl; rw [y1] at h; exact h) rfl rfl rfl rfl ?_
   iterate 7 refine p_countsW rfl ?_
   refine wN ?_
   refine tN (wKK hK2 ?_)
   refine wRet ?_
   exact wR1 rfl rfl (fun ww H => ⟨by rw [cnts_yes y1], by rw [cnts_yes y1, List.append_nil]; exact puts_mono (hp_puts H (by (repeat (first | exact List.Mem.head _ | apply List.Mem.tail)))) (by omega)⟩)
 · skip
   refine wReg ?_
   refine p_countsW rfl ?_
   refine wQ (l := [.slice (some ⟨g, 0, none⟩) ns.length c, .func (.func 78) #[] #[]]) Try.func77 rfl (by kernel_rfl) (.bool false) (fun wc H => by have h := containsC (some ⟨g, 0, none⟩) c ns wc (rS_blk (hp_held2 H (by (repeat (first | exact List.Mem.head _ | apply List.Mem.tail))))) hl; rw [y1] at h; exact h) rfl rfl rfl rfl ?_
   iterate 4 refine p_countsW rfl ?_
   refine wC (l := [.pointer (some ⟨b, 0, none⟩), .int .i64 4, .slice (some ⟨g, 0, none⟩) ns.length c]) Try.func46 rfl (by kernel_rfl) (fun wc H => outNumsP (wd := 4) (ns := ns) (c := c) (H.out.at 1 rfl) (hp_held2 H (by (repeat (first | exact List.Mem.head _ | apply List.Mem.tail)))) hgF (by omega) (by omega)) rfl rfl rfl rfl ?_
   intro wc H
   rintro er wd ⟨rfl, hpu⟩
   obtain ⟨fF1_6, H2⟩ := hp_put H (i := 1) rfl hpu
   refine ⟨_, rfl, wkAt H2 ?_⟩
   clear H H2
   iterate 2 refine p_countsW rfl ?_
   refine wN ?_
   refine tN (wKK hK2 ?_)
   refine wRet ?_
   exact wR1 rfl rfl (fun ww H => ⟨by rw [cnts_no y1], by rw [cnts_no y1]; exact hp_puts H (by (repeat (first | exact List.Mem.head _ | apply List.Mem.tail)))⟩)
/-- a writer takes counts -/
theorem countsH {S : List Nat} {w0 w : World} {R : List Res} (H : Hid (Hp S w0 w R)) {b gg : Nat} {ns : List Int} {F : List Nat} {m : Nat} {l : List Nat} {c i j n : Nat} {cs : List Value} (hi : R[i]? = some (rOut b F m l)) (hj : R[j]? = some (rB gg 3 cs)) (hcs : cs = ns.map (Value.int .i64)) (hn : ns.length = n) (hn8 : n ≤ 8) (hm : m ≤ 1000000000) :
    Calls Try.prog 47 #[.pointer (some ⟨b, 0, none⟩), .slice (some ⟨gg, 0, none⟩) n c] w fun e w' => e = .returned (.bool (cntsV ns).2) ∧ ∃ F', Hid (Hp S w0 w' (R.set i (rOut b F' (m + 8 * n) (l ++ (cntsV ns).1)))) := by
  subst hcs
  subst hn
  refine (countsW b F m l gg c ns w (H.out.at i hi) (H.out.lt _ (List.mem_of_getElem? hi)) (H.out.at j hj) hm (by omega) (by omega) (out_apart H hi hj)).mono ?_
  rintro e w' ⟨rfl, hpu⟩
  exact ⟨rfl, hp_put H hi hpu⟩
theorem cb1 {n : Int} : beBs 1 [n] = beB 1 n.toNat := by simp [beBs]
theorem call_ok1 {x : CallV} (h : (cntsV [x.id]).2 = false) : false = callOk x := by
  rw [cnts_all] at h
  unfold callOk
  simp only [List.all_cons, List.all_nil, Bool.and_true] at h
  rw [h]
  rfl
theorem call_ok2 {x : CallV} (h : (encs 1 [x.kind, x.src, x.dst, x.car, x.state]).2 = false) : false = callOk x := by
  rw [encs1] at h
  unfold callOk
  simp only [List.all_cons, List.all_nil, Bool.and_true] at h
  rw [h]
  simp
theorem call_ok3 {x : CallV} (h1 : (cntsV [x.id]).2 = true) (h2 : (encs 1 [x.kind, x.src, x.dst, x.car, x.state]).2 = true) : (cntsV [x.owner, x.born]).2 = callOk x := by
  rw [cnts_all] at h1 ⊢
  rw [encs1] at h2
  unfold callOk
  simp only [List.all_cons, List.all_nil, Bool.and_true] at h1 h2 ⊢
  rw [h1, h2]
  simp
theorem call_bytes {x : CallV} {l : List Nat} (h1 : (cntsV [x.id]).2 = true) (h2 : (encs 1 [x.kind, x.src, x.dst, x.car, x.state]).2 = true) (h3 : (cntsV [x.owner, x.born]).2 = true) :
    l ++ (cntsV [x.id]).1 ++ (encs 1 [x.kind, x.src, x.dst, x.car, x.state]).1 ++ (cntsV [x.owner, x.born]).1 = l ++ callB x := by
  rw [cnts_ok h1, encs_ok h2, cnts_ok h3]
  unfold callB
  simp [beBs]
def tab_callW : Wk.Tab := [(25, 0, 0), (25, 1, 1), (25, 2, 2), (25, 3, 3), (25, 4, 4), (25, 5, 5), (25, 6, 6), (25, 7, 7)]
theorem p_callW {ops : Array Oper} {rest : List Oper} {o : Oper} {w0 : World} {Q : Exit → Act → World → Prop} {S : List Nat} {R : List Res} {K K' : Wk.Env} {N : Nat} (h : Wk.stp tab_callW N ops K o = some K') (n : Wk.Wk N S w0 K' R (wpList Try.prog ops Q rest)) : Wk.Wk N S w0 K R (wpList Try.prog ops Q (o :: rest)) := Wk.wP (T := tab_callW) (by kernel_rfl) h n
set_option maxHeartbeats 16000000 in
set_option maxRecDepth 20000 in
theorem callW (b : Nat) (F : List Nat) (m : Nat) (l : List Nat) (x : CallV) (w : World) (hO : (rOut b F m l).holds w) (hF : ∀ k ∈ F, k < w.heap.size) (hm : m ≤ 900000000) : Calls Try.prog 48 #[.pointer (some ⟨b, 0, none⟩), .agg #[.int .i64 x.id, .int .i64 x.kind, .int .i64 x.src, .int .i64 x.dst, .int .i64 x.car, .int .i64 x.state, .int .i64 x.owner, .int .i64 x.born]] w fun e w' => e = .returned (.bool (callOk x)) ∧ ∃ l', Puts b F (m + 100) l' w w' ∧ (callOk x = true → l' = l ++ callB x) ∧ l.length ≤ l'.length := by
 have H := Lib.hid (Hp.start [] w)
 have H := hp_wr hO hF
 clear hO
 refine wStart (args := [.pointer (some ⟨b, 0, none⟩), .agg #[.int .i64 x.id, .int .i64 x.kind, .int .i64 x.src, .int .i64 x.dst, .int .i64 x.car, .int .i64 x.state, .int .i64 x.owner, .int .i64 x.born]]) Try.func48 rfl rfl rfl H ?_
 clear H
 show Wk 34 _ _ [(0, .pointer (some ⟨b, 0, none⟩)), (1, .agg #[.int .i64 x.id, .int .i64 x.kind, .int .i64 x.src, .int .i64 x.dst, .int .i64 x.car, .int .i64 x.state, .int .i64 x.owner, .int .i64 x.born])] _ _
 refine wSeqK fun KK1 hK1 => ?_
 refine wReg ?_
 refine wBx rfl rfl rfl fun b3 => ?_
 refine p_callW rfl ?_
 refine wN ?_
 refine tN (wKK hK1 ?_)
 refine wSeqK fun KK2 hK2 => ?_
 rcases Bool.eq_false_or_eq_true ((cntsV [x.id]).2) with y1 | y1
 · skip
   rcases Bool.eq_false_or_eq_true ((encs 1 [x.kind, x.src, x.dst, x.car, x.state]).2) with y2 | y2
   · skip
     refine wReg ?_
     iterate 2 refine p_callW rfl ?_
     refine wLd rfl tyint 0 rfl rfl ?_
     refine wBs (cs := [.int .i64 x.id]) rfl rfl rfl rfl Try.underlying125 tyint rfl (by decide) (by decide) (by kernel_rfl) fun b8 => ?_
     refine wC (l := [.pointer (some ⟨b, 0, none⟩), .slice (some ⟨b8, 0, none⟩) 1 1]) Try.func47 rfl (by kernel_rfl) (fun wc H => by have h := countsH H (ns := [x.id]) (n := 1) (c := 1) (i := 2) (j := 0) rfl rfl rfl rfl (by decide) (by omega); rw [y1] at h; exact h) rfl rfl rfl rfl ?_
     intro wc H
     rintro er wd ⟨rfl, fF1_4, H2⟩
     refine ⟨_, rfl, wkAt H2 ?_⟩
     clear H H2
     iterate 3 refine p_callW rfl ?_
     refine wLd rfl tyint 1 rfl rfl ?_
     refine p_callW rfl ?_
     refine wLd rfl tyint 1 rfl rfl ?_
     refine p_callW rfl ?_
     refine wLd rfl tyint 1 rfl rfl ?_
     refine p_callW rfl ?_
     refine wLd rfl tyint 1 rfl rfl ?_
     refine p_callW rfl ?_
     refine wLd rfl tyint 1 rfl rfl ?_
     refine wBs (cs := [.int .i64 x.kind, .int .i64 x.src, .int .i64 x.dst, .int .i64 x.car, .int .i64 x.state]) rfl rfl rfl rfl Try.underlying125 tyint rfl (by decide) (by decide) (by kernel_rfl) fun b22 => ?_
     refine wC (l := [.pointer (some ⟨b, 0, none⟩), .int .i64 1, .slice (some ⟨b22, 0, none⟩) 5 5]) Try.func46 rfl (by kernel_rfl) (fun wc H => by have h := outNumsH H (ns := [x.kind, x.src, x.dst, x.car, x.state]) (wd := 1) (n := 5) (c := 5) (i := 3) (j := 0) rfl rfl rfl rfl (by decide) (by omega); rw [y2] at h; exact h) rfl rfl rfl rfl ?_
     intro wc H
     rintro er wd ⟨rfl, fF1_18, H2⟩
     refine ⟨_, rfl, wkAt H2 ?_⟩
     clear H H2
     iterate 4 refine p_callW rfl ?_
     refine wLd rfl tyint 2 rfl rfl ?_
     refine p_callW rfl ?_
     refine wLd rfl tyint 2 rfl rfl ?_
     refine wBs (cs := [.int .i64 x.owner, .int .i64 x.born]) rfl rfl rfl rfl Try.underlying125 tyint rfl (by decide) (by decide) (by kernel_rfl) fun b31 => ?_
     refine wC (l := [.pointer (some ⟨b, 0, none⟩), .slice (some ⟨b31, 0, none⟩) 2 2]) Try.func47 rfl (by kernel_rfl) (fun wc H => countsH H (ns := [x.owner, x.born]) (n := 2) (c := 2) (i := 4) (j := 0) rfl rfl rfl rfl (by decide) (by omega)) rfl rfl rfl rfl ?_
     intro wc H
     rintro er wd ⟨rfl, fF1_27, H2⟩
     refine ⟨_, rfl, wkAt H2 ?_⟩
     clear H H2
     iterate 2 refine p_callW rfl ?_
     refine wN ?_
     refine tN (wKK hK2 ?_)
     refine wRet ?_
     exact wR1 rfl rfl (fun ww H => ⟨congrArg (fun z => Ending.returned (.bool z)) (call_ok3 y1 y2), _, puts_mono (hp_puts H (by (repeat (first | exact List.Mem.head _ | apply List.Mem.tail)))) (by omega), fun h => call_bytes y1 y2 ((call_ok3 y1 y2).trans h), by simp only [List.length_append]; omega⟩)
   · skip
     refine wReg ?_
     iterate 2 refine p_callW rfl ?_
     refine wLd rfl tyint 0 rfl rfl ?_
     refine wBs (cs := [.int .i64 x.id]) rfl rfl rfl rfl Try.underlying125 tyint rfl (by decide) (by decide) (by kernel_rfl) fun b8 => ?_
     refine wC (l := [.pointer (some ⟨b, 0, none⟩), .slice (some ⟨b8, 0, none⟩) 1 1]) Try.func47 rfl (by kernel_rfl) (fun wc H => by have h := countsH H (ns := [x.id]) (n := 1) (c := 1) (i := 2) (j := 0) rfl rfl rfl rfl (by decide) (by omega); rw [y1] at h; exact h) rfl rfl rfl rfl ?_
     intro wc H
     rintro er wd ⟨rfl, fF1_4, H2⟩
     refine ⟨_, rfl, wkAt H2 ?_⟩
     clear H H2
     iterate 3 refine p_callW rfl ?_
     refine wLd rfl tyint 1 rfl rfl ?_
     refine p_callW rfl ?_
     refine wLd rfl tyint 1 rfl rfl ?_
     refine p_callW rfl ?_
     refine wLd rfl tyint 1 rfl rfl ?_
     refine p_callW rfl ?_
     refine wLd rfl tyint 1 rfl rfl ?_
     refine p_callW rfl ?_
     refine wLd rfl tyint 1 rfl rfl ?_
     refine wBs (cs := [.int .i64 x.kind, .int .i64 x.src, .int .i64 x.dst, .int .i64 x.car, .int .i64 x.state]) rfl rfl rfl rfl Try.underlying125 tyint rfl (by decide) (by decide) (by kernel_rfl) fun b22 => ?_
     refine wC (l := [.pointer (some ⟨b, 0, none⟩), .int .i64 1, .slice (some ⟨b22, 0, none⟩) 5 5]) Try.func46 rfl (by kernel_rfl) (fun wc H => by have h := outNumsH H (ns := [x.kind, x.src, x.dst, x.car, x.state]) (wd := 1) (n := 5) (c := 5) (i := 3) (j := 0) rfl rfl rfl rfl (by decide) (by omega); rw [y2] at h; exact h) rfl rfl rfl rfl ?_
     intro wc H
     rintro er wd ⟨rfl, fF1_18, H2⟩
     refine ⟨_, rfl, wkAt H2 ?_⟩
     clear H H2
     iterate 11 refine p_callW rfl ?_
     refine wN ?_
     refine tN (wKK hK2 ?_)
     refine wRet ?_
     exact wR1 rfl rfl (fun ww H => ⟨congrArg (fun z => Ending.returned (.bool z)) (call_ok2 y2), _, puts_mono (hp_puts H (by (repeat (first | exact List.Mem.head _ | apply List.Mem.tail)))) (by omega), fun h => (by rw [← call_ok2 y2] at h; cases h), by simp only [List.length_append]; omega⟩)
 · skip
   rcases Bool.eq_false_or_eq_true ((encs 1 [x.kind, x.src, x.dst, x.car, x.state]).2) with y3 | y3
   · skip
     refine wReg ?_
     iterate 2 refine p_callW rfl ?_
     refine wLd rfl tyint 0 rfl rfl ?_
     refine wBs (cs := [.int .i64 x.id]) rfl rfl rfl rfl Try.underlying125 tyint rfl (by decide) (by decide) (by kernel_rfl) fun b8 => ?_
     refine wC (l := [.pointer (some ⟨b, 0, none⟩), .slice (some ⟨b8, 0, none⟩) 1 1]) Try.func47 rfl (by kernel_rfl) (fun wc H => by have h := countsH H (ns := [x.id]) (n := 1) (c := 1) (i := 2) (j := 0) rfl rfl rfl rfl (by decide) (by omega); rw [y1] at h; exact h) rfl rfl rfl rfl ?_
     intro wc H
     rintro er wd ⟨rfl, fF1_4, H2⟩
     refine ⟨_, rfl, wkAt H2 ?_⟩
     clear H H2
     iterate 25 refine p_callW rfl ?_
     refine wN ?_
     refine tN (wKK hK2 ?_)
     refine wRet ?_
     exact wR1 rfl rfl (fun ww H => ⟨congrArg (fun z => Ending.returned (.bool z)) (call_ok1 y1), _, puts_mono (hp_puts H (by (repeat (first | exact List.Mem.head _ | apply List.Mem.tail)))) (by omega), fun h => (by rw [← call_ok1 y1] at h; cases h), by simp only [List.length_append]; omega⟩)
   · skip
     refine wReg ?_
     iterate 2 refine p_callW rfl ?_
     refine wLd rfl tyint 0 rfl rfl ?_
     refine wBs (cs := [.int .i64 x.id]) rfl rfl rfl rfl Try.underlying125 tyint rfl (by decide) (by decide) (by kernel_rfl) fun b8 => ?_
     refine wC (l := [.pointer (some ⟨b, 0, none⟩), .slice (some ⟨b8, 0, none⟩) 1 1]) Try.func47 rfl (by kernel_rfl) (fun wc H => by have h := countsH H (ns := [x.id]) (n := 1) (c := 1) (i := 2) (j := 0) rfl rfl rfl rfl (by decide) (by omega); rw [y1] at h; exact h) rfl rfl rfl rfl ?_
     intro wc H
     rintro er wd ⟨rfl, fF1_4, H2⟩
     refine ⟨_, rfl, wkAt H2 ?_⟩
     clear H H2
     iterate 25 refine p_callW rfl ?_
     refine wN ?_
     refine tN (wKK hK2 ?_)
     refine wRet ?_
     exact wR1 rfl rfl (fun ww H => ⟨congrArg (fun z => Ending.returned (.bool z)) (call_ok1 y1), _, puts_mono (hp_puts H (by (repeat (first | exact List.Mem.head _ | apply List.Mem.tail)))) (by omega), fun h => (by rw [← call_ok1 y1] at h; cases h), by simp only [List.length_append]; omega⟩)
end Go.Proofs.Ytloemjhhedkhiaa.Nt
