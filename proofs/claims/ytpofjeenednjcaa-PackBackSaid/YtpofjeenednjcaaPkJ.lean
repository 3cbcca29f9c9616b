/- Words for the walk of PackJoins: three writers and two rows side by side. -/
import Derived.Test.YtpofjeenednjcaaProg
import Derived.Below
import Derived.WalkKit
import Derived.KernelRfl
import Derived.RowKit3
import Derived.Deep.LoopGhost
import Derived.Deep.QuietTactic
import Derived.BigQuiet
import Derived.WideLaws
import Derived.Deep.DeepCutAuto
import Derived.Deep.CutBlock
import Derived.Lib.Hide
import Derived.Laws.BitsLemmas
import Derived.Laws.Bits64
import Derived.Laws.BitsAllLaws
import Derived.IntWalk
import Derived.Outline
import Derived.WalkSpells
import Derived.Test.YtpofjeenednjcaaMem
import Derived.Test.YtpofjeenednjcaaPk9
namespace Go.Proofs.Ytpofjeenednjcaa.Pk
open Go.RowKit Go.Proofs.Ytpofjeenednjcaa.Mem

theorem info_act : (Try.prog.info? 44).map (fun i => (i.zero, i.size, i.bytes)) = some (some (.agg #[.int .i64 0, .int .i64 0, .int .i64 0, .int .i64 0, .string ⟨#[]⟩]), 5, 48) := by kernel_rfl
theorem act_len (l : List ActV) : ∀ r ∈ l.map actCells, r.length = 5 := by
  intro r hr
  obtain ⟨a, _, rfl⟩ := List.mem_map.1 hr
  rfl
theorem act_one (l : List ActV) : ∀ r ∈ l.map actCells, ∀ u ∈ r, u.oneCell' = true := by
  intro r hr u hu
  obtain ⟨a, _, rfl⟩ := List.mem_map.1 hr
  simp [actCells] at hu
  rcases hu with rfl | rfl | rfl | rfl | rfl <;> rfl
theorem rows_form {w : World} {v : Value} {sz : Nat} {rows : List (List Value)} (h : RowsAt w v sz rows) : ∃ a c, v = .slice a rows.length c := by
  rcases h with ⟨rfl, rfl⟩ | ⟨x, c, rfl, _⟩
  · exact ⟨_, _, rfl⟩
  · exact ⟨_, _, rfl⟩
theorem owns_made (w : World) (n : Nat) (hn : n = w.heap.size) (e : TypeId) (sz : Nat) : (w.alloc (.cells #[] e)).ownsRow 0 e sz (.slice (some ⟨n, 0, none⟩) 0 0) 0 [] := by
  subst hn
  exact World.ownsRow_made w #[] 0 (Nat.zero_le _) (Nat.zero_le _) (by simp)
def ActV.enc (a : ActV) : List Nat × Bool := if a.kind = 1 then encN a.wd a.n else encT a.s

theorem enc_len (a : ActV) (hs : a.s.size ≤ 1024) : a.enc.1.length ≤ 1100 := by
  unfold ActV.enc
  split
  · exact Nat.le_trans (encN_len _ _) (by omega)
  · exact Nat.le_trans (encT_len _) (by omega)
theorem enc_no (a : ActV) (h : a.enc.2 = false) : a.enc.1 = [] := by
  unfold ActV.enc encN encT at *
  split
  · rename_i hk
    rw [if_pos hk] at h
    split
    · rename_i hc
      rw [if_pos hc] at h
      cases h
    · rfl
  · rename_i hk
    rw [if_neg hk] at h
    split
    · rename_i hc
      rw [if_pos hc] at h
      cases h
    · rfl
def encs (l : List ActV) : List Nat := (l.map fun a => a.enc.1).flatten
theorem encs_lt (l : List ActV) : ∀ c ∈ encs l, c < 256 := by
  intro c hc
  obtain ⟨e, he, hc⟩ := List.mem_flatten.1 hc
  obtain ⟨a, _, rfl⟩ := List.mem_map.1 he
  unfold ActV.enc at hc
  split at hc
  · exact encN_lt _ _ c hc
  · exact encT_lt _ c hc
theorem encs_drop (l : List ActV) (k : Nat) (h : k < l.length) : encs (l.drop k) = l[k].enc.1 ++ encs (l.drop (k + 1)) := by
  unfold encs
  rw [List.drop_eq_getElem_cons h, List.map_cons, List.flatten_cons]
theorem end_nil : (str []).toList.isEmpty = true := by
  rw [empty_size, str_size]
  rfl
/-- what the rounds have done -/
structure JoinsOk (na : Nat) (k : Nat) (dn : List ActV) (xl yl zl : List Nat) : Prop where
  join : zl = xl ++ yl
  text : zl = (dn.map fun a => a.enc.1).flatten
  first : k ≤ na → yl = []
  ok : ∀ a ∈ dn, ActOk a ∧ a.enc.2 = true ∧ a.s.size ≤ 1024
  len : dn.length ≤ k
  size : zl.length ≤ 1100 * k
theorem JoinsOk.more {na k : Nat} {dn : List ActV} {xl yl zl xl' yl' : List Nat} (h : JoinsOk na k dn xl yl zl) (a : ActV) (en : List Nat) (ha : ActOk a) (hs : a.s.size ≤ 1024) (he : a.enc = (en, true)) (hel : en.length ≤ 1100)
    (hj : zl ++ en = xl' ++ yl') (hf : k + 1 ≤ na → yl' = []) : JoinsOk na (k + 1) (dn ++ [a]) xl' yl' (zl ++ en) :=
  ⟨hj, by rw [h.text]; simp [he], hf, by
    intro b hb
    rcases List.mem_append.1 hb with hb | hb
    · exact h.ok b hb
    · obtain rfl := List.mem_singleton.1 hb
      exact ⟨ha, by rw [he], hs⟩, by have := h.len; simp; omega, by have := h.size; simp; omega⟩
theorem JoinsOk.stepX {na k : Nat} {dn : List ActV} {xl yl zl : List Nat} (h : JoinsOk na k dn xl yl zl) (hk : k < na) (a : ActV) (en : List Nat) (ha : ActOk a) (hs : a.s.size ≤ 1024) (he : a.enc = (en, true)) (hel : en.length ≤ 1100) :
    JoinsOk na (k + 1) (dn ++ [a]) (xl ++ en) yl (zl ++ en) :=
  h.more a en ha hs he hel (by rw [h.join, h.first (by omega)]; simp) (fun _ => h.first (by omega))
theorem JoinsOk.stepY {na k : Nat} {dn : List ActV} {xl yl zl : List Nat} (h : JoinsOk na k dn xl yl zl) (hk : na ≤ k) (a : ActV) (en : List Nat) (ha : ActOk a) (hs : a.s.size ≤ 1024) (he : a.enc = (en, true)) (hel : en.length ≤ 1100) :
    JoinsOk na (k + 1) (dn ++ [a]) xl (yl ++ en) (zl ++ en) :=
  h.more a en ha hs he hel (by rw [h.join]; simp) (fun hq => by omega)
structure JMem (all : List ActV) (w : World) (n : Nat) (vall vlens vdone : Value) (ls : List Int) (dn : List ActV) (xl yl zl : List Nat) (xv yv zv : Value) (wr : World) : Prop where
  x : OutAt wr n xv xl
  y : OutAt wr (n + 1) yv yl
  z : OutAt wr (n + 1 + 1) zv zl
  lens : wr.ownsRow 0 3 1 vlens ls.length (ls.map (Value.int .i64))
  done : wr.ownsRow 0 44 5 vdone dn.length (dn.map actCells).flatten
  all : RowsAt wr vall 5 (all.map actCells)
  sep : Sep wr [vdone.ownBlock.toList, vlens.ownBlock.toList, vall.ownBlock.toList, foot (n + 1 + 1) zv, foot (n + 1) yv, foot n xv, List.range w.heap.size]
  off : Off [] w wr
section
variable {all : List ActV} {w : World} {n : Nat} {vall vlens vdone : Value} {ls : List Int} {dn : List ActV} {xl yl zl : List Nat} {xv yv zv : Value} {wr : World}
theorem JMem.alloc (h : JMem all w n vall vlens vdone ls dn xl yl zl xv yv zv wr) (o : Obj) : JMem all w n vall vlens vdone ls dn xl yl zl xv yv zv (wr.alloc o) :=
  ⟨h.x.off ((Off.refl [] _).alloc _) (by simp) (by simp), h.y.off ((Off.refl [] _).alloc _) (by simp) (by simp), h.z.off ((Off.refl [] _).alloc _) (by simp) (by simp), h.lens.alloc _, h.done.alloc _,
    h.all.off ((Off.refl [] _).alloc _) (by simp), h.sep.mono (by simp), h.off.alloc _⟩
theorem JMem.toZ (h : JMem all w n vall vlens vdone ls dn xl yl zl xv yv zv wr) {w' : World} {v' : Value} {l' : List Nat} (ho : OutAt w' (n + 1 + 1) v' l') (hg : Goes wr zv v') (hf : Off (foot (n + 1 + 1) zv) wr w') :
    JMem all w n vall vlens vdone ls dn xl yl l' xv yv v' w' :=
  ⟨out_off h.x hf (h.sep.apart 5 3 (by decide) rfl rfl), out_off h.y hf (h.sep.apart 4 3 (by decide) rfl rfl), ho, owns_off h.lens hf (h.sep.apart 1 3 (by decide) rfl rfl), owns_off h.done hf (h.sep.apart 0 3 (by decide) rfl rfl),
    h.all.off hf (fun k hk => h.sep.apart 2 3 (by decide) rfl rfl k (by simp [hk])), h.sep.step (pre := [_, _, _]) (Grow.foot hg) hf.size (out_lt ho), h.off.fresh hf (h.sep.above 3 6 (by decide) rfl rfl)⟩
theorem JMem.toY (h : JMem all w n vall vlens vdone ls dn xl yl zl xv yv zv wr) {w' : World} {v' : Value} {l' : List Nat} (ho : OutAt w' (n + 1) v' l') (hg : Goes wr yv v') (hf : Off (foot (n + 1) yv) wr w') :
    JMem all w n vall vlens vdone ls dn xl l' zl xv v' zv w' :=
  ⟨out_off h.x hf (h.sep.apart 5 4 (by decide) rfl rfl), ho, out_off h.z hf (h.sep.apart 3 4 (by decide) rfl rfl), owns_off h.lens hf (h.sep.apart 1 4 (by decide) rfl rfl), owns_off h.done hf (h.sep.apart 0 4 (by decide) rfl rfl),
    h.all.off hf (fun k hk => h.sep.apart 2 4 (by decide) rfl rfl k (by simp [hk])), h.sep.step (pre := [_, _, _, _]) (Grow.foot hg) hf.size (out_lt ho), h.off.fresh hf (h.sep.above 4 6 (by decide) rfl rfl)⟩
theorem JMem.toX (h : JMem all w n vall vlens vdone ls dn xl yl zl xv yv zv wr) {w' : World} {v' : Value} {l' : List Nat} (ho : OutAt w' n v' l') (hg : Goes wr xv v') (hf : Off (foot n xv) wr w') :
    JMem all w n vall vlens vdone ls dn l' yl zl v' yv zv w' :=
  ⟨ho, out_off h.y hf (h.sep.apart 4 5 (by decide) rfl rfl), out_off h.z hf (h.sep.apart 3 5 (by decide) rfl rfl), owns_off h.lens hf (h.sep.apart 1 5 (by decide) rfl rfl), owns_off h.done hf (h.sep.apart 0 5 (by decide) rfl rfl),
    h.all.off hf (fun k hk => h.sep.apart 2 5 (by decide) rfl rfl k (by simp [hk])), h.sep.step (pre := [_, _, _, _, _]) (Grow.foot hg) hf.size (out_lt ho), h.off.fresh hf (h.sep.above 5 6 (by decide) rfl rfl)⟩
theorem JMem.toLens (h : JMem all w n vall vlens vdone ls dn xl yl zl xv yv zv wr) {w' : World} {v' : Value} {m : Int} (ho : w'.ownsRow 0 3 1 v' (ls.length + 1) (ls.map (Value.int .i64) ++ [.int .i64 m])) (hg : Goes wr vlens v') (hgr : wr.grownBy w' vlens.ownBlock) :
    JMem all w n vall v' vdone (ls ++ [m]) dn xl yl zl xv yv zv w' := by
  have hf := off_grown hgr
  exact ⟨out_off h.x hf (h.sep.apart 5 1 (by decide) rfl rfl), out_off h.y hf (h.sep.apart 4 1 (by decide) rfl rfl), out_off h.z hf (h.sep.apart 3 1 (by decide) rfl rfl), by simpa using ho, owns_off h.done hf (h.sep.apart 0 1 (by decide) rfl rfl),
    h.all.off hf (fun k hk => h.sep.apart 2 1 (by decide) rfl rfl k (by simp [hk])), h.sep.step (pre := [_]) (Grow.own hg) hf.size (owns_lt ho), h.off.fresh hf (h.sep.above 1 6 (by decide) rfl rfl)⟩
theorem JMem.toDone (h : JMem all w n vall vlens vdone ls dn xl yl zl xv yv zv wr) {w' : World} {v' : Value} {a : ActV} (ho : w'.ownsRow 0 44 5 v' (dn.length + 1) ((dn.map actCells).flatten ++ actCells a)) (hg : Goes wr vdone v') (hgr : wr.grownBy w' vdone.ownBlock) :
    JMem all w n vall vlens v' ls (dn ++ [a]) xl yl zl xv yv zv w' := by
  have hf := off_grown hgr
  exact ⟨out_off h.x hf (h.sep.apart 5 0 (by decide) rfl rfl), out_off h.y hf (h.sep.apart 4 0 (by decide) rfl rfl), out_off h.z hf (h.sep.apart 3 0 (by decide) rfl rfl), owns_off h.lens hf (h.sep.apart 1 0 (by decide) rfl rfl), by simpa using ho,
    h.all.off hf (fun k hk => h.sep.apart 2 0 (by decide) rfl rfl k (by simp [hk])), h.sep.step (pre := []) (Grow.own hg) hf.size (owns_lt ho), h.off.fresh hf (h.sep.above 0 6 (by decide) rfl rfl)⟩
theorem rows_single {w : World} {g : Nat} {cs : List Value} {t : TypeId} {sz c : Nat} (h : Blk w g cs.toArray t) : RowsAt w (.slice (some ⟨g, 0, none⟩) 1 c) sz [cs] := by
  refine .inr ⟨⟨g, 0, none⟩, c, rfl, fun i hi j u hu => ?_⟩
  obtain rfl : i = 0 := by simpa using hi
  have := rows_one h j u hu
  simpa [Addr.add] using this
theorem JMem.lensApp (h : JMem all w n vall vlens vdone ls dn xl yl zl xv yv zv wr) : ∃ a c, vlens = .slice a ls.length c := own_form h.lens
/-- one number, one text, to each of the three -/
theorem JMem.numZ (h : JMem all w n vall vlens vdone ls dn xl yl zl xv yv zv wr) (hl : zl.length ≤ 1000000) (wd m : Int) (g : Nat) (hgn : g = wr.heap.size) :
    Calls Try.prog 23 #[.pointer (some ⟨n + 1 + 1, 0, none⟩), .int .i64 wd, .slice (some ⟨g, 0, none⟩) 1 1] (wr.alloc (.cells #[.int .i64 m] 3)) fun e w' => e = .returned (.bool (encN wd m).2) ∧ ∃ v', JMem all w n vall vlens vdone ls dn xl yl (zl ++ (encN wd m).1) xv yv v' w' ∧ Off (foot (n + 1 + 1) zv) wr w' := by
  refine (outNum_enc (n + 1 + 1) wd m g zv zl _ (by omega) (h.alloc _).z (blk_new' _ _ _ _ hgn) (fun hk => by have := h.sep.below 3 rfl _ hk; omega)).mono ?_
  rintro e w' ⟨rfl, v', h1, h2, h3⟩
  exact ⟨rfl, v', (h.alloc _).toZ h1 h2 h3, ((Off.refl _ wr).alloc _).trans h3 (fun i _ hi => hi)⟩
theorem JMem.numY (h : JMem all w n vall vlens vdone ls dn xl yl zl xv yv zv wr) (hl : yl.length ≤ 1000000) (wd m : Int) (g : Nat) (hgn : g = wr.heap.size) :
    Calls Try.prog 23 #[.pointer (some ⟨n + 1, 0, none⟩), .int .i64 wd, .slice (some ⟨g, 0, none⟩) 1 1] (wr.alloc (.cells #[.int .i64 m] 3)) fun e w' => e = .returned (.bool (encN wd m).2) ∧ ∃ v', JMem all w n vall vlens vdone ls dn xl (yl ++ (encN wd m).1) zl xv v' zv w' ∧ Off (foot (n + 1) yv) wr w' := by
  refine (outNum_enc (n + 1) wd m g yv yl _ (by omega) (h.alloc _).y (blk_new' _ _ _ _ hgn) (fun hk => by have := h.sep.below 4 rfl _ hk; omega)).mono ?_
  rintro e w' ⟨rfl, v', h1, h2, h3⟩
  exact ⟨rfl, v', (h.alloc _).toY h1 h2 h3, ((Off.refl _ wr).alloc _).trans h3 (fun i _ hi => hi)⟩
theorem JMem.numX (h : JMem all w n vall vlens vdone ls dn xl yl zl xv yv zv wr) (hl : xl.length ≤ 1000000) (wd m : Int) (g : Nat) (hgn : g = wr.heap.size) :
    Calls Try.prog 23 #[.pointer (some ⟨n, 0, none⟩), .int .i64 wd, .slice (some ⟨g, 0, none⟩) 1 1] (wr.alloc (.cells #[.int .i64 m] 3)) fun e w' => e = .returned (.bool (encN wd m).2) ∧ ∃ v', JMem all w n vall vlens vdone ls dn (xl ++ (encN wd m).1) yl zl v' yv zv w' ∧ Off (foot n xv) wr w' := by
  refine (outNum_enc n wd m g xv xl _ (by omega) (h.alloc _).x (blk_new' _ _ _ _ hgn) (fun hk => by have := h.sep.below 5 rfl _ hk; omega)).mono ?_
  rintro e w' ⟨rfl, v', h1, h2, h3⟩
  exact ⟨rfl, v', (h.alloc _).toX h1 h2 h3, ((Off.refl _ wr).alloc _).trans h3 (fun i _ hi => hi)⟩
theorem JMem.textZ (h : JMem all w n vall vlens vdone ls dn xl yl zl xv yv zv wr) (hl : zl.length ≤ 1000000) (s : ByteArray) :
    Calls Try.prog 25 #[.pointer (some ⟨n + 1 + 1, 0, none⟩), .string s] wr fun e w' => e = .returned (.bool (encT s).2) ∧ ∃ v', JMem all w n vall vlens vdone ls dn xl yl (zl ++ (encT s).1) xv yv v' w' ∧ Off (foot (n + 1 + 1) zv) wr w' := by
  refine (outText_enc (n + 1 + 1) s zv zl _ (by omega) h.z).mono ?_
  rintro e w' ⟨rfl, v', h1, h2, h3⟩
  exact ⟨rfl, v', h.toZ h1 h2 h3, h3⟩
theorem JMem.textY (h : JMem all w n vall vlens vdone ls dn xl yl zl xv yv zv wr) (hl : yl.length ≤ 1000000) (s : ByteArray) :
    Calls Try.prog 25 #[.pointer (some ⟨n + 1, 0, none⟩), .string s] wr fun e w' => e = .returned (.bool (encT s).2) ∧ ∃ v', JMem all w n vall vlens vdone ls dn xl (yl ++ (encT s).1) zl xv v' zv w' ∧ Off (foot (n + 1) yv) wr w' := by
  refine (outText_enc (n + 1) s yv yl _ (by omega) h.y).mono ?_
  rintro e w' ⟨rfl, v', h1, h2, h3⟩
  exact ⟨rfl, v', h.toY h1 h2 h3, h3⟩
theorem JMem.textX (h : JMem all w n vall vlens vdone ls dn xl yl zl xv yv zv wr) (hl : xl.length ≤ 1000000) (s : ByteArray) :
    Calls Try.prog 25 #[.pointer (some ⟨n, 0, none⟩), .string s] wr fun e w' => e = .returned (.bool (encT s).2) ∧ ∃ v', JMem all w n vall vlens vdone ls dn (xl ++ (encT s).1) yl zl v' yv zv w' ∧ Off (foot n xv) wr w' := by
  refine (outText_enc n s xv xl _ (by omega) h.x).mono ?_
  rintro e w' ⟨rfl, v', h1, h2, h3⟩
  exact ⟨rfl, v', h.toX h1 h2 h3, h3⟩
theorem info_int : (Try.prog.info? 3).map (fun i => (i.zero, i.size, i.bytes)) = some (some (.int .i64 0), 1, 8) := by kernel_rfl
theorem JMem.appLens {ops : Array Oper} {rest : List Oper} {o : Oper} {a : Act} {Q : Exit → Act → World → Prop} (h : JMem all w n vall vlens vdone ls dn xl yl zl xv yv zv wr) (hls : ls.length ≤ 1000) (X : Int) (g : Nat) (hg : g = wr.heap.size) (hgd : o.guard = none) (s x : Operand)
    (ho : o.op = .call { callee := .builtin .append, args := #[s, x], argTypes := #[35, 35] }) (hs : a.eval s = vlens) (hx : a.eval x = .slice (some ⟨g, 0, none⟩) 1 1)
    (K : ∀ a' c' w', JMem all w n vall (.slice a' (ls.length + 1) c') vdone (ls ++ [X]) dn xl yl zl xv yv zv w' → Off vlens.ownBlock.toList wr w' → wpList Try.prog ops Q rest (a.put o.dst (.slice a' (ls.length + 1) c')) w') :
    wpList Try.prog ops Q (o :: rest) a (wr.alloc (.cells #[.int .i64 X] 3)) := by
  obtain ⟨i0, hi, hh⟩ := Option.map_eq_some_iff.1 info_int
  simp only [Prod.mk.injEq] at hh
  refine wpList_append_rows _ hgd s x _ ho 0 3 i0 _ 1 8 Try.underlying35 hi hh.1 hh.2.1 hh.2.2 rfl (by decide) vlens _ _ hs (h.alloc _).lens _ [[.int .i64 X]] hx (rows_single (blk_new' _ _ _ g hg)) (by simp) (by
    intro r hr u hu
    simp only [List.mem_singleton] at hr
    subst hr
    simp only [List.mem_singleton] at hu
    subst hu
    rfl) (by unfold maxLen; simp; omega) (by simp; omega) (Nat.zero_le _) ?_
  intro v' w' hown hgrow hgo
  obtain ⟨a', c', rfl⟩ := own_form hown
  have hown' : w'.ownsRow 0 3 1 (.slice a' (ls.length + 1) c') (ls.length + 1) (ls.map (Value.int .i64) ++ [.int .i64 X]) := by simpa using hown
  exact K a' c' w' ((h.alloc _).toLens hown' hgo hgrow) (((Off.refl _ wr).alloc _).trans (off_grown hgrow) (fun i _ hi => hi))
theorem JMem.appDone {ops : Array Oper} {rest : List Oper} {o : Oper} {a : Act} {Q : Exit → Act → World → Prop} (h : JMem all w n vall vlens vdone ls dn xl yl zl xv yv zv wr) (hls : dn.length ≤ 1000) (X : ActV) (g : Nat) (hg : g = wr.heap.size) (hgd : o.guard = none) (s x : Operand)
    (ho : o.op = .call { callee := .builtin .append, args := #[s, x], argTypes := #[39, 39] }) (hs : a.eval s = vdone) (hx : a.eval x = .slice (some ⟨g, 0, none⟩) 1 1)
    (K : ∀ a' c' w', JMem all w n vall vlens (.slice a' (dn.length + 1) c') ls (dn ++ [X]) xl yl zl xv yv zv w' → wpList Try.prog ops Q rest (a.put o.dst (.slice a' (dn.length + 1) c')) w') :
    wpList Try.prog ops Q (o :: rest) a (wr.alloc (.cells (actA X) 44)) := by
  obtain ⟨i0, hi, hh⟩ := Option.map_eq_some_iff.1 info_act
  simp only [Prod.mk.injEq] at hh
  refine wpList_append_rows _ hgd s x _ ho 0 44 i0 _ 5 48 Try.underlying39 hi hh.1 hh.2.1 hh.2.2 rfl (by decide) vdone _ _ hs (h.alloc _).done _ ([X].map actCells) hx (rows_single (cs := actCells X) (blk_new' _ _ _ g hg)) (act_len _) (act_one _) (by unfold maxLen; simp; omega) (by simp; omega) (Nat.zero_le _) ?_
  intro v' w' hown hgrow hgo
  obtain ⟨a', c', rfl⟩ := own_form hown
  have hown' : w'.ownsRow 0 44 5 (.slice a' (dn.length + 1) c') (dn.length + 1) ((dn.map actCells).flatten ++ actCells X) := by simpa using hown
  exact K a' c' w' ((h.alloc _).toDone hown' hgo hgrow)
end
end Go.Proofs.Ytpofjeenednjcaa.Pk
