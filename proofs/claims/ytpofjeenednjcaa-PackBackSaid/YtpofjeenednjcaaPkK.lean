/- Words for the walk of PackBack: what is written, read back, and read back cut. -/
import Derived.Test.YtpofjeenednjcaaProg
import Derived.Below
import Derived.WalkKit
import Derived.KernelRfl
import Derived.RowKit3
import Derived.Deep.LoopGhost
import Derived.Deep.QuietTactic
import Derived.BigQuiet
import Derived.WideLaws
import Derived.Deep.DeepCutAuto
import Derived.Deep.CutBlock
import Derived.Lib.Hide
import Derived.Laws.BitsLemmas
import Derived.Laws.Bits64
import Derived.Laws.BitsAllLaws
import Derived.IntWalk
import Derived.Outline
import Derived.WalkSpells
import Derived.Test.YtpofjeenednjcaaMem
import Derived.Test.YtpofjeenednjcaaPkJ
import Derived.Test.YtpofjeenednjcaaPk11
namespace Go.Proofs.Ytpofjeenednjcaa.Pk
open Go.RowKit Go.Proofs.Ytpofjeenednjcaa.Mem

theorem encN_two (wd n : Int) : (encN wd n).2 = (wide wd && fitsV wd n) := by
  unfold encN
  split
  · rename_i h
    rw [h]
  · rename_i h
    simpa using h
def encNN (wd n m : Int) : List Nat × Bool := if (encN wd n).2 && (encN wd m).2 then ((encN wd n).1 ++ (encN wd m).1, true) else ([], false)
def ActV.enc2 (a : ActV) : List Nat × Bool := if a.kind = 1 then encNN a.wd a.n a.m else if a.kind = 2 then encT a.s else ([], false)
theorem outNum_enc2 (b : Nat) (wd n m : Int) (g : Nat) (v : Value) (l : List Nat) (w : World) (hll : l.length ≤ 1099511627776) (ho : OutAt w b v l) (hg : Blk w g #[.int .i64 n, .int .i64 m] 3) (hgf : g ∉ foot b v) :
    Calls Try.prog 23 #[.pointer (some ⟨b, 0, none⟩), .int .i64 wd, .slice (some ⟨g, 0, none⟩) 2 2] w fun e w' => e = .returned (.bool (encNN wd n m).2) ∧ ∃ v', OutAt w' b v' (l ++ (encNN wd n m).1) ∧ Goes w v v' ∧ Off (foot b v) w w' := by
  have hgb : g ≠ b := fun e => hgf (by simp [foot, e])
  have hgv : some g ≠ v.ownBlock := fun e => hgf (by simp [foot, ← e])
  have hr : ∀ (i : Nat) (h : i < [n, m].length), w.cell? ((⟨g, 0, none⟩ : Addr).add i) = some (.int .i64 [n, m][i]) := fun i hi => by
    match i, hi with
    | 0, _ => exact hg.cell 0 _ rfl
    | 1, _ => exact hg.cell 1 _ rfl
  unfold encNN
  rw [encN_two, encN_two]
  by_cases hw : wide wd = true
  · rw [hw]
    cases hf : [n, m].all (fitsV wd)
    · rw [if_neg (by simpa using hf)]
      refine (outNum_no b wd ⟨g, 0, none⟩ [n, m] 2 w hw (by simp) hr hf).mono ?_
      rintro e w' ⟨rfl, rfl⟩
      exact ⟨rfl, v, by simpa using ho, Goes.refl _ _, Off.refl _ _⟩
    · have hfit : fitsV wd n = true ∧ fitsV wd m = true := by simpa using hf
      rw [if_pos (by simp [hfit])]
      obtain ⟨a, rfl⟩ : ∃ a : Nat, wd = (a : Int) := ⟨wd.toNat, by have := wide_cases hw; omega⟩
      have e1 : encN a n = (beB a n.toNat, true) := by unfold encN; rw [if_pos (by simp [hw, hfit])]; rfl
      have e2 : encN a m = (beB a m.toNat, true) := by unfold encN; rw [if_pos (by simp [hw, hfit])]; rfl
      rw [e1, e2]
      have h := outNum_yes b a ⟨g, 0, none⟩ [n, m] 2 v l w hw (by simp) hll hr hf ho hgb hgv
      simpa [beBs, foot] using h
  · have hf : wide wd = false := by simpa using hw
    rw [hf, if_neg (by simp)]
    refine (outNum_bad b wd _ w hf).mono ?_
    rintro e w' ⟨rfl, rfl⟩
    exact ⟨rfl, v, by simpa using ho, Goes.refl _ _, Off.refl _ _⟩
theorem encNN_len (wd n m : Int) : (encNN wd n m).1.length ≤ 16 := by
  have h1 := encN_len wd n
  have h2 := encN_len wd m
  unfold encNN
  split
  · show ((encN wd n).1 ++ (encN wd m).1).length ≤ 16
    rw [List.length_append]
    omega
  · simp
theorem encNN_no (wd n m : Int) (h : (encNN wd n m).2 = false) : (encNN wd n m).1 = [] := by
  unfold encNN at *
  split at h
  · cases h
  · rename_i hc
    rw [if_neg hc]
theorem encT_no (s : ByteArray) (h : (encT s).2 = false) : (encT s).1 = [] := by
  unfold encT at *
  split at h
  · cases h
  · rename_i hc
    rw [if_neg hc]
theorem encNN_yes (wd n m : Int) (h : (encNN wd n m).2 = true) : (encN wd n).2 = true ∧ (encN wd m).2 = true ∧ (encNN wd n m).1 = (encN wd n).1 ++ (encN wd m).1 := by
  unfold encNN at *
  split at h
  · rename_i hc
    rw [if_pos hc]
    simp only [Bool.and_eq_true] at hc
    exact ⟨hc.1, hc.2, rfl⟩
  · cases h
def encs2 (l : List ActV) : List Nat := (l.map fun a => a.enc2.1).flatten
theorem enc2_lt (a : ActV) : ∀ c ∈ a.enc2.1, c < 256 := by
  intro c hc
  unfold ActV.enc2 at hc
  split at hc
  · unfold encNN at hc
    split at hc
    · rcases List.mem_append.1 hc with h | h
      · exact encN_lt _ _ c h
      · exact encN_lt _ _ c h
    · cases hc
  · split at hc
    · exact encT_lt _ c hc
    · cases hc
theorem encs2_lt (l : List ActV) : ∀ c ∈ encs2 l, c < 256 := by
  intro c hc
  obtain ⟨e, he, hc⟩ := List.mem_flatten.1 hc
  obtain ⟨a, _, rfl⟩ := List.mem_map.1 he
  exact enc2_lt a c hc
theorem encs2_drop (l : List ActV) (k : Nat) (h : k < l.length) : encs2 (l.drop k) = l[k].enc2.1 ++ encs2 (l.drop (k + 1)) := by
  unfold encs2
  rw [List.drop_eq_getElem_cons h, List.map_cons, List.flatten_cons]
theorem encs2_snoc (l : List ActV) (a : ActV) : encs2 (l ++ [a]) = encs2 l ++ a.enc2.1 := by simp [encs2]
/-- what the rounds have written -/
structure BackOk (k : Nat) (dn : List ActV) (xl : List Nat) : Prop where
  text : xl = encs2 dn
  ok : ∀ a ∈ dn, ActOk a ∧ a.enc2.2 = true ∧ a.s.size ≤ 1024
  len : dn.length ≤ k
  size : xl.length ≤ 1100 * k
theorem BackOk.skip {k : Nat} {dn : List ActV} {xl : List Nat} (h : BackOk k dn xl) : BackOk (k + 1) dn xl := ⟨h.text, h.ok, by have := h.len; omega, by have := h.size; omega⟩
theorem BackOk.more {k : Nat} {dn : List ActV} {xl : List Nat} (h : BackOk k dn xl) (a : ActV) (en : List Nat) (ha : ActOk a) (hs : a.s.size ≤ 1024) (he : a.enc2 = (en, true)) (hel : en.length ≤ 1100) : BackOk (k + 1) (dn ++ [a]) (xl ++ en) :=
  ⟨by rw [encs2_snoc, he, h.text], by
    intro b hb
    rcases List.mem_append.1 hb with hb | hb
    · exact h.ok b hb
    · obtain rfl := List.mem_singleton.1 hb
      exact ⟨ha, by rw [he], hs⟩, by have := h.len; simp; omega, by have := h.size; simp; omega⟩
structure BMem (w : World) (n : Nat) (vd : Value) (dn : List ActV) (xl : List Nat) (xv : Value) (wr : World) : Prop where
  x : OutAt wr n xv xl
  done : wr.ownsRow 0 44 5 vd dn.length (dn.map actCells).flatten
  sep : Sep wr [vd.ownBlock.toList, foot n xv, List.range w.heap.size]
  off : Off [] w wr
section
variable {w : World} {n : Nat} {vd : Value} {dn : List ActV} {xl : List Nat} {xv : Value} {wr : World}
theorem BMem.alloc (h : BMem w n vd dn xl xv wr) (o : Obj) : BMem w n vd dn xl xv (wr.alloc o) :=
  ⟨h.x.off ((Off.refl [] _).alloc _) (by simp) (by simp), h.done.alloc _, h.sep.mono (by simp), h.off.alloc _⟩
theorem BMem.toX (h : BMem w n vd dn xl xv wr) {w' : World} {v' : Value} {l' : List Nat} (ho : OutAt w' n v' l') (hg : Goes wr xv v') (hf : Off (foot n xv) wr w') : BMem w n vd dn l' v' w' :=
  ⟨ho, owns_off h.done hf (h.sep.apart 0 1 (by decide) rfl rfl), h.sep.step (pre := [_]) (Grow.foot hg) hf.size (out_lt ho), h.off.fresh hf (h.sep.above 1 2 (by decide) rfl rfl)⟩
theorem BMem.toDone (h : BMem w n vd dn xl xv wr) {w' : World} {v' : Value} {dn' : List ActV} (ho : w'.ownsRow 0 44 5 v' dn'.length (dn'.map actCells).flatten) (hg : Goes wr vd v') (hgr : wr.grownBy w' vd.ownBlock) : BMem w n v' dn' xl xv w' :=
  ⟨out_off h.x (off_grown hgr) (h.sep.apart 1 0 (by decide) rfl rfl), ho, h.sep.step (pre := []) (Grow.own hg) hgr.size (owns_lt ho), h.off.fresh (off_grown hgr) (h.sep.above 0 2 (by decide) rfl rfl)⟩
theorem BMem.num2 (h : BMem w n vd dn xl xv wr) (hl : xl.length ≤ 1000000) (wd m m2 : Int) (g : Nat) (hgn : g = wr.heap.size) :
    Calls Try.prog 23 #[.pointer (some ⟨n, 0, none⟩), .int .i64 wd, .slice (some ⟨g, 0, none⟩) 2 2] (wr.alloc (.cells #[.int .i64 m, .int .i64 m2] 3)) fun e w' => e = .returned (.bool (encNN wd m m2).2) ∧ ∃ v', BMem w n vd dn (xl ++ (encNN wd m m2).1) v' w' ∧ Off (foot n xv) wr w' := by
  refine (outNum_enc2 n wd m m2 g xv xl _ (by omega) (h.alloc _).x (blk_new' _ _ _ _ hgn) (fun hk => by have := h.sep.below 1 rfl _ hk; omega)).mono ?_
  rintro e w' ⟨rfl, v', h1, h2, h3⟩
  exact ⟨rfl, v', (h.alloc _).toX h1 h2 h3, ((Off.refl _ wr).alloc _).trans h3 (fun i _ hi => hi)⟩
theorem BMem.text (h : BMem w n vd dn xl xv wr) (hl : xl.length ≤ 1000000) (s : ByteArray) :
    Calls Try.prog 25 #[.pointer (some ⟨n, 0, none⟩), .string s] wr fun e w' => e = .returned (.bool (encT s).2) ∧ ∃ v', BMem w n vd dn (xl ++ (encT s).1) v' w' ∧ Off (foot n xv) wr w' := by
  refine (outText_enc n s xv xl _ (by omega) h.x).mono ?_
  rintro e w' ⟨rfl, v', h1, h2, h3⟩
  exact ⟨rfl, v', h.toX h1 h2 h3, h3⟩
theorem BMem.appDone {ops : Array Oper} {rest : List Oper} {o : Oper} {a : Act} {Q : Exit → Act → World → Prop} (h : BMem w n vd dn xl xv wr) (hls : dn.length ≤ 1000) (X : ActV) (g : Nat) (hg : g = wr.heap.size) (hgd : o.guard = none) (s x : Operand)
    (ho : o.op = .call { callee := .builtin .append, args := #[s, x], argTypes := #[39, 39] }) (hs : a.eval s = vd) (hx : a.eval x = .slice (some ⟨g, 0, none⟩) 1 1)
    (K : ∀ a' c' w', BMem w n (.slice a' (dn.length + 1) c') (dn ++ [X]) xl xv w' → wpList Try.prog ops Q rest (a.put o.dst (.slice a' (dn.length + 1) c')) w') :
    wpList Try.prog ops Q (o :: rest) a (wr.alloc (.cells (actA X) 44)) := by
  obtain ⟨i0, hi, hh⟩ := Option.map_eq_some_iff.1 info_act
  simp only [Prod.mk.injEq] at hh
  refine wpList_append_rows _ hgd s x _ ho 0 44 i0 _ 5 48 Try.underlying39 hi hh.1 hh.2.1 hh.2.2 rfl (by decide) vd _ _ hs (h.alloc _).done _ ([X].map actCells) hx (rows_single (cs := actCells X) (blk_new' _ _ _ g hg)) (act_len _) (act_one _) (by unfold maxLen; simp; omega) (by simp; omega) (Nat.zero_le _) ?_
  intro v' w' hown hgrow hgo
  obtain ⟨a', c', rfl⟩ := own_form hown
  have hown' : w'.ownsRow 0 44 5 (.slice a' (dn.length + 1) c') (dn ++ [X]).length (((dn ++ [X]).map actCells).flatten) := by simpa using hown
  exact K a' c' w' ((h.alloc _).toDone hown' hgo hgrow)
end
/-- the bytes without the last one -/
def CutSt (T : List Nat) (s : ByteArray) (b : Bool) : Prop := b = true ∨ (T ≠ [] ∧ s = str T.dropLast ∧ b = false)
theorem str_take_last (l : List Nat) (m : Nat) (hm : m = l.length - 1) : (str l).extract 0 m = str l.dropLast := by
  subst hm
  apply ByteArray.ext
  rw [ByteArray.data_extract]
  apply Array.ext'
  simp [str, List.dropLast_eq_take]
theorem inNum_badV (s : ByteArray) (n : Int) : inNumV s true n = (0, s, true) := by unfold inNumV; rw [if_neg (by simp)]
theorem inText_badV (s : ByteArray) (n : Int) : inTextV s true n = (⟨#[]⟩, s, true) := by unfold inTextV; rw [if_neg (by simp)]
theorem dropLast_lt {l : List Nat} (h : ∀ c ∈ l, c < 256) : ∀ c ∈ l.dropLast, c < 256 := fun c hc => h c (List.mem_of_mem_take (by rw [List.dropLast_eq_take] at hc; exact hc))
theorem num_cut (wd n : Int) (R : List Nat) (hR : ∀ c ∈ R, c < 256) (hn : n < 9223372036854775808) (h : (encN wd n).2 = true) (s : ByteArray) (b : Bool) (hs : CutSt ((encN wd n).1 ++ R) s b) :
    CutSt R (inNumV s b wd).2.1 (inNumV s b wd).2.2 := by
  rcases hs with rfl | ⟨_, rfl, rfl⟩
  · rw [inNum_badV]
    exact .inl rfl
  · by_cases hr : R = []
    · subst hr
      refine .inl ?_
      rw [List.append_nil]
      have h2 := h
      rw [encN_two] at h2
      simp only [Bool.and_eq_true] at h2
      have hc := wide_cases h2.1
      have hl : (encN wd n).1.length = wd.toNat := by
        unfold encN
        rw [if_pos (by simp [h2])]
        exact beB_length _ _
      unfold inNumV
      rw [if_neg]
      intro hh
      have := hh.2.2.1
      rw [str_size, List.length_dropLast, hl] at this
      omega
    · rw [List.dropLast_append_of_ne_nil hr, (back_num wd n R.dropLast (dropLast_lt hR) hn h).1]
      exact .inr ⟨hr, rfl, rfl⟩
theorem text_cut (t : ByteArray) (R : List Nat) (hR : ∀ c ∈ R, c < 256) (ht : t.size ≤ 1024) (h : (encT t).2 = true) (s : ByteArray) (b : Bool) (hs : CutSt ((encT t).1 ++ R) s b) :
    CutSt R (inTextV s b 1024).2.1 (inTextV s b 1024).2.2 := by
  rcases hs with rfl | ⟨_, rfl, rfl⟩
  · rw [inText_badV]
    exact .inl rfl
  · by_cases hr : R = []
    · subst hr
      refine .inl ?_
      have he : (encT t).1 = beB 2 t.size ++ nums t := by unfold encT; rw [if_pos (by omega)]
      rw [List.append_nil, he]
      unfold inTextV
      rw [if_neg]
      intro hh
      by_cases h0 : t.size = 0
      · have hn : nums t = [] := List.eq_nil_of_length_eq_zero (by rw [nums_length]; exact h0)
        have := hh.2.1
        rw [hn, List.append_nil, str_size, List.length_dropLast, beB_length] at this
        omega
      · have hn : nums t ≠ [] := fun e => h0 (by rw [← nums_length, e]; rfl)
        have h3 := hh.2.2.2
        rw [List.dropLast_append_of_ne_nil hn, be_str 2 _ _ (dropLast_lt (nums_lt t)), str_size, List.length_append, beB_length, List.length_dropLast, nums_length] at h3
        omega
    · rw [List.dropLast_append_of_ne_nil hr, back_text t R.dropLast (dropLast_lt hR) 1024 (by omega) h]
      exact .inr ⟨hr, rfl, rfl⟩
/-- a list of numbers of one byte each is its bytes -/
theorem enc1_nums : ∀ (ns : List Int), (ns.all fun n => (encN 1 n).2) = true → enc1 ns = ns.map Int.toNat ∧ ∀ n ∈ ns, 0 ≤ n ∧ n < 256
  | [], _ => ⟨rfl, by simp⟩
  | n :: ns, h => by
    rw [List.all_cons, Bool.and_eq_true] at h
    obtain ⟨h1, h2⟩ := enc1_nums ns h.2
    have h3 := h.1
    rw [encN_two] at h3
    have hf : (wide 1 && fitsV 1 n) = true := h3
    simp only [Bool.and_eq_true] at h3
    have hb : 0 ≤ n ∧ n < 256 := by
      have := h3.2
      unfold fitsV at this
      simp at this
      omega
    have he : (encN 1 n).1 = [n.toNat] := by
      unfold encN
      rw [if_pos hf]
      show beB 1 n.toNat = [n.toNat]
      simp [beB]
      omega
    refine ⟨?_, ?_⟩
    · show (((n :: ns).map fun n => (encN 1 n).1).flatten) = _
      rw [List.map_cons, List.flatten_cons, he, show ((ns.map fun n => (encN 1 n).1).flatten) = enc1 ns from rfl, h1]
      rfl
    · intro x hx
      rcases List.mem_cons.1 hx with rfl | hx
      · exact hb
      · exact h2 x hx
theorem enc1_lt (ns : List Int) (h : (ns.all fun n => (encN 1 n).2) = true) : ∀ c ∈ enc1 ns, c < 256 := by
  obtain ⟨h1, h2⟩ := enc1_nums ns h
  intro c hc
  rw [h1] at hc
  obtain ⟨n, hn, rfl⟩ := List.mem_map.1 hc
  have := h2 n hn
  omega
theorem list_back (ns : List Int) (h : (ns.all fun n => (encN 1 n).2) = true) (hl : ns.length ≤ 100) :
    inNumV (str (encL ns)) false 2 = (ns.length, str (enc1 ns), false) ∧ (str (enc1 ns)).size = ns.length ∧ ints ((nums (str (enc1 ns))).take ns.length) = ns.map (Value.int .i64) := by
  obtain ⟨h1, h2⟩ := enc1_nums ns h
  refine ⟨inNum_back 2 ns.length _ (enc1_lt ns h) rfl ?_ (by omega), ?_, ?_⟩
  · unfold fitsV wide
    simp
    omega
  · rw [str_size, h1, List.length_map]
  · rw [nums_str _ (enc1_lt ns h), h1, List.take_of_length_le (by rw [List.length_map]; exact Nat.le_refl _), ints, List.map_map]
    apply List.map_congr_left
    intro n hn
    have := h2 n hn
    show Value.int .i64 ((n.toNat : Nat) : Int) = Value.int .i64 n
    congr 1
    omega
theorem list_cut (ns : List Int) (h : (ns.all fun n => (encN 1 n).2) = true) (hl : ns.length ≤ 100) (s : ByteArray) (b : Bool) (hs : CutSt (encL ns) s b) :
    ∃ n s1 b1, inNumV s b 2 = (n, s1, b1) ∧ n ≤ 100 ∧ (b1 = true ∨ s1.size < n) := by
  rcases hs with rfl | ⟨_, rfl, rfl⟩
  · exact ⟨_, _, _, inNum_badV _ _, by omega, .inl rfl⟩
  · by_cases h0 : enc1 ns = []
    · refine ⟨0, str (encL ns).dropLast, true, ?_, by omega, .inl rfl⟩
      unfold inNumV
      rw [if_neg]
      intro hh
      have := hh.2.2.1
      rw [encL, h0, List.append_nil, str_size, List.length_dropLast, beB_length] at this
      omega
    · refine ⟨ns.length, str (enc1 ns).dropLast, false, ?_, hl, .inr ?_⟩
      · rw [encL, List.dropLast_append_of_ne_nil h0]
        exact inNum_back 2 ns.length _ (dropLast_lt (enc1_lt ns h)) rfl (by unfold fitsV wide; simp; omega) (by omega)
      · obtain ⟨h1, _⟩ := enc1_nums ns h
        have hp : 0 < (enc1 ns).length := List.length_pos_iff.2 h0
        have hle : (enc1 ns).length = ns.length := by rw [h1, List.length_map]
        rw [str_size, List.length_dropLast]
        omega
end Go.Proofs.Ytpofjeenednjcaa.Pk
